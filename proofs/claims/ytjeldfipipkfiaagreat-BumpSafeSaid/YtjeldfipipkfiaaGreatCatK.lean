/- The contracts of slices.Concat at two rows of named types, and at two rows of interfaces. -/
import Derived.Test.YtjeldfipipkfiaaGreatGShelf
import Derived.Test.YtjeldfipipkfiaaGreatGMem
import Derived.Test.YtjeldfipipkfiaaGreatFewC
import Derived.Test.YtjeldfipipkfiaaGreatDclR
namespace Go.Proofs.YtjeldfipipkfiaaGreat
open Go.RowKit
set_option linter.unusedSimpArgs false
set_option linter.unusedVariables false
theorem NmC.size {w : World} {B : Nat} {n : Nm} {cs : Array Value} (h : NmC w B n cs) : cs.size = 8 := by
  obtain ⟨-, na, nc, sa, sc, rfl, -⟩ := h; rfl
theorem NmC.one {w : World} {B : Nat} {n : Nm} {cs : Array Value} (h : NmC w B n cs) : ∀ u ∈ cs.toList, u.oneCell' = true := by
  obtain ⟨-, na, nc, sa, sc, rfl, -⟩ := h
  simp [nmCells, Value.oneCell']
theorem IfC.size {w : World} {B : Nat} {n : If} {cs : Array Value} (h : IfC w B n cs) : cs.size = 5 := by
  obtain ⟨-, na, nc, sa, sc, rfl, -⟩ := h; rfl
theorem IfC.one {w : World} {B : Nat} {n : If} {cs : Array Value} (h : IfC w B n cs) : ∀ u ∈ cs.toList, u.oneCell' = true := by
  obtain ⟨-, na, nc, sa, sc, rfl, -⟩ := h
  simp [ifCells, Value.oneCell']
theorem infoNamed : ((Tryz.prog).info? 57).map (fun i => (i.zero, i.size, i.bytes)) = some (some (.agg #[.string { data := #[] }, .int .i64 0, .string { data := #[] }, .int .i64 0, .string { data := #[] }, .string { data := #[] }, .slice none 0 0, .slice none 0 0]), 8, 128) := by kernel_rfl
theorem growNamed_c (n : Nat) (w : World) (hn : n ≤ 1000000) :
    Calls Tryz.prog 174 #[.slice none 0 0, .int .i64 n] w fun e w' => ∃ v, e = .returned v ∧ w'.ownsRow w.heap.size 57 8 v 0 [] ∧ Below w.heap.size w w' := by
  obtain ⟨i0, hi, hz0, hz1, hz2⟩ := info_parts infoNamed
  by_cases h0 : n = 0
  · subst h0
    refine (growRoomNamed none 0 0 0 w (Nat.le_refl _) (by omega) (by omega) (by omega)).mono ?_
    rintro e w' ⟨rfl, rfl⟩
    exact ⟨_, rfl, World.ownsRow_nil _ _ _ _, Below.refl _ _⟩
  · refine (growNilNamed i0 _ hi hz0 (by omega) (by omega) n w (by omega) hn).mono ?_
    rintro e w' ⟨rfl, rfl⟩
    have hge := grownCap_ge w (0 + n) 0 57
    have hle := grownCap_le_maxLen w (0 + n) 0 57 (by unfold maxLen; omega)
    refine ⟨_, rfl, World.ownsRow_made (w := w.drew) _ _ (Nat.le_refl _) hle ?_, (Below.refl _ w).drew.alloc (Nat.le_refl _) _⟩
    rw [Array.size_append, Array.size_append, size_zeroCells, size_zeroCells]
    simp only [Value.cells, List.size_toArray, List.length_nil, List.length_cons]
    omega
set_option maxHeartbeats 8000000 in
set_option maxRecDepth 100000 in
theorem catNamed_c (g : Nat) (A A' : Option Addr) (c c' B : Nat) (l l' : List Nm) (w : World) (h1 : NmsAt w B A l) (h2 : NmsAt w B A' l') (hB : B ≤ w.heap.size) (hg0 : w.cell? ⟨g, 0, none⟩ = some (.slice A l.length c)) (hg1 : w.cell? ⟨g, 1, none⟩ = some (.slice A' l'.length c'))
    (hgl : g < w.heap.size) (hl : l.length ≤ 1000) (hl' : l'.length ≤ 1000) :
    Calls Tryz.prog 156 #[.slice (some ⟨g, 0, none⟩) 2 2] w fun e w' => ∃ A cap, e = .returned (.slice A (l ++ l').length cap) ∧ (l ++ l').length ≤ cap ∧ NmsAt w' w'.heap.size A (l ++ l') ∧ Below w.heap.size w w' := by
  obtain ⟨i0, hi, hz0, hz1, hz2⟩ := info_parts infoNamed
  obtain ⟨f, hr, hn⟩ := h1
  obtain ⟨f', hr', hn'⟩ := h2
  have HR := Lib.hid hr
  have HR' := Lib.hid hr'
  have HN := Lib.hid hn
  have HN' := Lib.hid hn'
  have SZ := Lib.hid (fun i (h : i < l.length) => (hn i h).size)
  have SZ' := Lib.hid (fun i (h : i < l'.length) => (hn' i h).size)
  have ON := Lib.hid (flatK_one (K := 8) (f := f) (n := l.length) fun i h => (hn i h).one)
  have ON' := Lib.hid (flatK_one (K := 8) (f := f') (n := l'.length) fun i h => (hn' i h).one)
  clear hr hr' hn hn'
  go_enter Tryz.func156, Tryz.ntmps156
  go_wp2_with fail
  go_loopw [3, 11] (fun s i wr => w = wr ∧ ((s = .int .i64 0 ∧ i = .int .i64 0) ∨ (s = .int .i64 l.length ∧ i = .int .i64 1) ∨ (s = .int .i64 ((l.length : Int) + (l'.length : Int)) ∧ i = .int .i64 2))) (fun _ i _ => 2 - (intOf i).toNat)
  case atStart => exact ⟨rfl, .inl ⟨rfl, rfl⟩⟩
  case round =>
    obtain ⟨rfl, ⟨rfl, rfl⟩ | ⟨rfl, rfl⟩ | ⟨rfl, rfl⟩⟩ := hrel
    · have hw0 : ¬ (l.length : Int) < 0 := by omega
      go_wp2_with fail
      exact ⟨⟨trivial, .inr (.inl ⟨rfl, rfl⟩)⟩, by simp [intOf]⟩
    · have hw0 : ¬ ((l.length : Int) + (l'.length : Int)) < 0 := by omega
      go_wp2_with fail
      exact ⟨⟨trivial, .inr (.inr ⟨rfl, rfl⟩)⟩, by simp [intOf]⟩
    · have hG := growNamed_c (l.length + l'.length) w (by omega)
      simp only [Int.natCast_add] at hG
      have HG := Lib.hid hG
      clear hG
      go_wp2_with (go_at_call 174; refine HG.out.mono ?_; rintro e w1 ⟨v0, rfl, hown0, hb0⟩; have HO := Lib.hid hown0; have HB0 := Lib.hid hb0; clear hown0 hb0)
      go_loopw [6, 27] (fun v i wk => Below w.heap.size w wk ∧ ((wk.ownsRow w.heap.size 57 8 v 0 [] ∧ i = .int .i64 0) ∨ (wk.ownsRow w.heap.size 57 8 v l.length (flatK f l.length) ∧ i = .int .i64 1) ∨ (wk.ownsRow w.heap.size 57 8 v (l.length + l'.length) (flatK f l.length ++ flatK f' l'.length) ∧ i = .int .i64 2))) (fun _ i _ => 2 - (intOf i).toNat)
      case atStart => exact ⟨HB0.out, .inl ⟨HO.out, rfl⟩⟩
      case round =>
        obtain ⟨hb, ⟨hown, rfl⟩ | ⟨hown, rfl⟩ | ⟨hown, rfl⟩⟩ := hrel
        · have c0 := (hb.cell (p := ⟨g, 0, none⟩) hgl).trans hg0
          have HB := Lib.hid hb
          have HW := Lib.hid hown
          clear hb
          cases A with
          | none =>
            have hown' := hown
            clear hown
            have hl0 : l = [] := by
              rcases HR.out with h | ⟨b, o, h, -⟩
              · exact List.eq_nil_of_length_eq_zero h
              · cases h
            subst hl0
            simp only [List.length_nil] at c0
            rcases hown'.2 with ⟨rfl, hq⟩ | ⟨g1, cap, cur, rfl, hq, hq1, hq2, hq3, -⟩
            · clear hown' hq
              go_wp2_with fail
              exact ⟨⟨HB.out, .inr (.inl ⟨(by simpa [flatK] using HW.out), rfl⟩)⟩, by simp [intOf]⟩
            · have hq4 : ¬ cap < 0 := by omega
              clear hown' hq hq1
              go_wp2_with fail
              exact ⟨⟨HB.out, .inr (.inl ⟨(by simpa [flatK] using HW.out), rfl⟩)⟩, by simp [intOf]⟩
          | some a =>
            have hS : ∀ j u, (flatK f l.length)[j]? = some u → wr.cell? (a.add j) = some u := fun j u hj => by
              rw [← rows_src (by decide) HR.out SZ.out j u hj]
              rcases HR.out with h | ⟨b, o, h, hbB, -⟩
              · rw [h] at hj; simp [flatK] at hj
              · cases h
                rw [addN]
                exact HB.out.cell (Nat.lt_of_lt_of_le hbB hB)
            have HS := Lib.hid hS
            have hbw := HB.out.size
            have hln := flatK_len SZ.out
            have HLN := Lib.hid hln
            clear hS hown hln
            go_wp2_with (at_builtin; refine wpList_append_own _ rfl _ _ 31 rfl w.heap.size 57 i0 (.agg #[.string { data := #[] }, .int .i64 0, .string { data := #[] }, .int .i64 0, .string { data := #[] }, .string { data := #[] }, .slice none 0 0, .slice none 0 0]) 8 128 Tryz.underlying31 hi hz0 hz1 hz2 rfl (by decide) _ 0 [] rfl HW.out a l.length c (flatK f l.length) rfl ?qc1 ?qc2 ?qc3 ?qc4 ?qc5 ?qc6 ?_)
            case qc1 => exact HLN.out
            case qc2 => exact fun j u hj => HS.out j u hj
            case qc3 => exact ON.out
            case qc4 => unfold maxLen; omega
            case qc5 => omega
            case qc6 => exact hbw
            intro v' w2 hown2 hgrow hnil
            go_wp2_with fail
            have hb2 : Below w.heap.size w w2 := HB.out.grown hgrow HB.out.size (fun k hk => (owns_lt' HW.out hk).1)
            exact ⟨⟨hb2, .inr (.inl ⟨(by simpa using hown2), rfl⟩)⟩, by simp [intOf]⟩
        · have c0 := (hb.cell (p := ⟨g, 1, none⟩) hgl).trans hg1
          have HB := Lib.hid hb
          have HW := Lib.hid hown
          clear hb
          cases A' with
          | none =>
            have hown' := hown
            clear hown
            have hl0 : l' = [] := by
              rcases HR'.out with h | ⟨b, o, h, -⟩
              · exact List.eq_nil_of_length_eq_zero h
              · cases h
            subst hl0
            simp only [List.length_nil] at c0
            rcases hown'.2 with ⟨rfl, hq⟩ | ⟨g1, cap, cur, rfl, hq, hq1, hq2, hq3, -⟩
            · clear hown' hq
              go_wp2_with fail
              exact ⟨⟨HB.out, .inr (.inr ⟨(by simpa [flatK] using HW.out), rfl⟩)⟩, by simp [intOf]⟩
            · have hq4 : ¬ cap < 0 := by omega
              clear hown' hq hq1
              go_wp2_with fail
              exact ⟨⟨HB.out, .inr (.inr ⟨(by simpa [flatK] using HW.out), rfl⟩)⟩, by simp [intOf]⟩
          | some a =>
            have hS : ∀ j u, (flatK f' l'.length)[j]? = some u → wr.cell? (a.add j) = some u := fun j u hj => by
              rw [← rows_src (by decide) HR'.out SZ'.out j u hj]
              rcases HR'.out with h | ⟨b, o, h, hbB, -⟩
              · rw [h] at hj; simp [flatK] at hj
              · cases h
                rw [addN]
                exact HB.out.cell (Nat.lt_of_lt_of_le hbB hB)
            have HS := Lib.hid hS
            have hbw := HB.out.size
            have hln := flatK_len SZ'.out
            have HLN := Lib.hid hln
            clear hS hown hln
            go_wp2_with (at_builtin; refine wpList_append_own _ rfl _ _ 31 rfl w.heap.size 57 i0 (.agg #[.string { data := #[] }, .int .i64 0, .string { data := #[] }, .int .i64 0, .string { data := #[] }, .string { data := #[] }, .slice none 0 0, .slice none 0 0]) 8 128 Tryz.underlying31 hi hz0 hz1 hz2 rfl (by decide) _ l.length (flatK f l.length) rfl HW.out a l'.length c' (flatK f' l'.length) rfl ?qc1 ?qc2 ?qc3 ?qc4 ?qc5 ?qc6 ?_)
            case qc1 => exact HLN.out
            case qc2 => exact fun j u hj => HS.out j u hj
            case qc3 => exact ON'.out
            case qc4 => unfold maxLen; omega
            case qc5 => omega
            case qc6 => exact hbw
            intro v' w2 hown2 hgrow hnil
            go_wp2_with fail
            have hb2 : Below w.heap.size w w2 := HB.out.grown hgrow HB.out.size (fun k hk => (owns_lt' HW.out hk).1)
            exact ⟨⟨hb2, .inr (.inr ⟨(by simpa using hown2), rfl⟩)⟩, by simp [intOf]⟩
        · go_wp2_with fail
          go_ret
          rw [flatK_app] at hown
          have hsz : ∀ i, i < l.length + l'.length → (if i < l.length then f i else f' (i - l.length)).size = 8 := by
            intro i hi
            split
            · exact SZ.out i ‹_›
            · exact SZ'.out (i - l.length) (by omega)
          obtain ⟨A2, cap2, rfl, hcap, hrows⟩ := own_rows hown hsz
          refine ⟨A2, cap2, by rw [List.length_append]; rfl, by rw [List.length_append]; exact hcap, ⟨_, by rw [List.length_append]; exact hrows, fun i hi => ?_⟩, hb⟩
          rw [List.length_append] at hi
          have hsize := hb.size
          by_cases hlt : i < l.length
          · simp only [if_pos hlt]
            rw [List.getElem_append_left hlt]
            exact ((HN.out i hlt).keep fun q hq => hb.cell (by omega)).mono (by omega)
          · simp only [if_neg hlt]
            rw [List.getElem_append_right (by omega)]
            exact ((HN'.out (i - l.length) (by omega)).keep fun q hq => hb.cell (by omega)).mono (by omega)
theorem infoIface : ((Tryz.prog).info? 33).map (fun i => (i.zero, i.size, i.bytes)) = some (some (.agg #[.string { data := #[] }, .int .i64 0, .string { data := #[] }, .slice none 0 0, .slice none 0 0]), 5, 88) := by kernel_rfl
theorem growIface_c (n : Nat) (w : World) (hn : n ≤ 1000000) :
    Calls Tryz.prog 154 #[.slice none 0 0, .int .i64 n] w fun e w' => ∃ v, e = .returned v ∧ w'.ownsRow w.heap.size 33 5 v 0 [] ∧ Below w.heap.size w w' := by
  obtain ⟨i0, hi, hz0, hz1, hz2⟩ := info_parts infoIface
  by_cases h0 : n = 0
  · subst h0
    refine (growRoomIface none 0 0 0 w (Nat.le_refl _) (by omega) (by omega) (by omega)).mono ?_
    rintro e w' ⟨rfl, rfl⟩
    exact ⟨_, rfl, World.ownsRow_nil _ _ _ _, Below.refl _ _⟩
  · refine (growNilIface i0 _ hi hz0 (by omega) (by omega) n w (by omega) hn).mono ?_
    rintro e w' ⟨rfl, rfl⟩
    have hge := grownCap_ge w (0 + n) 0 33
    have hle := grownCap_le_maxLen w (0 + n) 0 33 (by unfold maxLen; omega)
    refine ⟨_, rfl, World.ownsRow_made (w := w.drew) _ _ (Nat.le_refl _) hle ?_, (Below.refl _ w).drew.alloc (Nat.le_refl _) _⟩
    rw [Array.size_append, Array.size_append, size_zeroCells, size_zeroCells]
    simp only [Value.cells, List.size_toArray, List.length_nil, List.length_cons]
    omega
set_option maxHeartbeats 8000000 in
set_option maxRecDepth 100000 in
theorem catIface_c (g : Nat) (A A' : Option Addr) (c c' B : Nat) (l l' : List If) (w : World) (h1 : IfsAt w B A l) (h2 : IfsAt w B A' l') (hB : B ≤ w.heap.size) (hg0 : w.cell? ⟨g, 0, none⟩ = some (.slice A l.length c)) (hg1 : w.cell? ⟨g, 1, none⟩ = some (.slice A' l'.length c'))
    (hgl : g < w.heap.size) (hl : l.length ≤ 1000) (hl' : l'.length ≤ 1000) :
    Calls Tryz.prog 115 #[.slice (some ⟨g, 0, none⟩) 2 2] w fun e w' => ∃ A cap, e = .returned (.slice A (l ++ l').length cap) ∧ (l ++ l').length ≤ cap ∧ IfsAt w' w'.heap.size A (l ++ l') ∧ Below w.heap.size w w' := by
  obtain ⟨i0, hi, hz0, hz1, hz2⟩ := info_parts infoIface
  obtain ⟨f, hr, hn⟩ := h1
  obtain ⟨f', hr', hn'⟩ := h2
  have HR := Lib.hid hr
  have HR' := Lib.hid hr'
  have HN := Lib.hid hn
  have HN' := Lib.hid hn'
  have SZ := Lib.hid (fun i (h : i < l.length) => (hn i h).size)
  have SZ' := Lib.hid (fun i (h : i < l'.length) => (hn' i h).size)
  have ON := Lib.hid (flatK_one (K := 5) (f := f) (n := l.length) fun i h => (hn i h).one)
  have ON' := Lib.hid (flatK_one (K := 5) (f := f') (n := l'.length) fun i h => (hn' i h).one)
  clear hr hr' hn hn'
  go_enter Tryz.func115, Tryz.ntmps115
  go_wp2_with fail
  go_loopw [3, 11] (fun s i wr => w = wr ∧ ((s = .int .i64 0 ∧ i = .int .i64 0) ∨ (s = .int .i64 l.length ∧ i = .int .i64 1) ∨ (s = .int .i64 ((l.length : Int) + (l'.length : Int)) ∧ i = .int .i64 2))) (fun _ i _ => 2 - (intOf i).toNat)
  case atStart => exact ⟨rfl, .inl ⟨rfl, rfl⟩⟩
  case round =>
    obtain ⟨rfl, ⟨rfl, rfl⟩ | ⟨rfl, rfl⟩ | ⟨rfl, rfl⟩⟩ := hrel
    · have hw0 : ¬ (l.length : Int) < 0 := by omega
      go_wp2_with fail
      exact ⟨⟨trivial, .inr (.inl ⟨rfl, rfl⟩)⟩, by simp [intOf]⟩
    · have hw0 : ¬ ((l.length : Int) + (l'.length : Int)) < 0 := by omega
      go_wp2_with fail
      exact ⟨⟨trivial, .inr (.inr ⟨rfl, rfl⟩)⟩, by simp [intOf]⟩
    · have hG := growIface_c (l.length + l'.length) w (by omega)
      simp only [Int.natCast_add] at hG
      have HG := Lib.hid hG
      clear hG
      go_wp2_with (go_at_call 154; refine HG.out.mono ?_; rintro e w1 ⟨v0, rfl, hown0, hb0⟩; have HO := Lib.hid hown0; have HB0 := Lib.hid hb0; clear hown0 hb0)
      go_loopw [6, 27] (fun v i wk => Below w.heap.size w wk ∧ ((wk.ownsRow w.heap.size 33 5 v 0 [] ∧ i = .int .i64 0) ∨ (wk.ownsRow w.heap.size 33 5 v l.length (flatK f l.length) ∧ i = .int .i64 1) ∨ (wk.ownsRow w.heap.size 33 5 v (l.length + l'.length) (flatK f l.length ++ flatK f' l'.length) ∧ i = .int .i64 2))) (fun _ i _ => 2 - (intOf i).toNat)
      case atStart => exact ⟨HB0.out, .inl ⟨HO.out, rfl⟩⟩
      case round =>
        obtain ⟨hb, ⟨hown, rfl⟩ | ⟨hown, rfl⟩ | ⟨hown, rfl⟩⟩ := hrel
        · have c0 := (hb.cell (p := ⟨g, 0, none⟩) hgl).trans hg0
          have HB := Lib.hid hb
          have HW := Lib.hid hown
          clear hb
          cases A with
          | none =>
            have hown' := hown
            clear hown
            have hl0 : l = [] := by
              rcases HR.out with h | ⟨b, o, h, -⟩
              · exact List.eq_nil_of_length_eq_zero h
              · cases h
            subst hl0
            simp only [List.length_nil] at c0
            rcases hown'.2 with ⟨rfl, hq⟩ | ⟨g1, cap, cur, rfl, hq, hq1, hq2, hq3, -⟩
            · clear hown' hq
              go_wp2_with fail
              exact ⟨⟨HB.out, .inr (.inl ⟨(by simpa [flatK] using HW.out), rfl⟩)⟩, by simp [intOf]⟩
            · have hq4 : ¬ cap < 0 := by omega
              clear hown' hq hq1
              go_wp2_with fail
              exact ⟨⟨HB.out, .inr (.inl ⟨(by simpa [flatK] using HW.out), rfl⟩)⟩, by simp [intOf]⟩
          | some a =>
            have hS : ∀ j u, (flatK f l.length)[j]? = some u → wr.cell? (a.add j) = some u := fun j u hj => by
              rw [← rows_src (by decide) HR.out SZ.out j u hj]
              rcases HR.out with h | ⟨b, o, h, hbB, -⟩
              · rw [h] at hj; simp [flatK] at hj
              · cases h
                rw [addN]
                exact HB.out.cell (Nat.lt_of_lt_of_le hbB hB)
            have HS := Lib.hid hS
            have hbw := HB.out.size
            have hln := flatK_len SZ.out
            have HLN := Lib.hid hln
            clear hS hown hln
            go_wp2_with (at_builtin; refine wpList_append_own _ rfl _ _ 26 rfl w.heap.size 33 i0 (.agg #[.string { data := #[] }, .int .i64 0, .string { data := #[] }, .slice none 0 0, .slice none 0 0]) 5 88 Tryz.underlying26 hi hz0 hz1 hz2 rfl (by decide) _ 0 [] rfl HW.out a l.length c (flatK f l.length) rfl ?qc1 ?qc2 ?qc3 ?qc4 ?qc5 ?qc6 ?_)
            case qc1 => exact HLN.out
            case qc2 => exact fun j u hj => HS.out j u hj
            case qc3 => exact ON.out
            case qc4 => unfold maxLen; omega
            case qc5 => omega
            case qc6 => exact hbw
            intro v' w2 hown2 hgrow hnil
            go_wp2_with fail
            have hb2 : Below w.heap.size w w2 := HB.out.grown hgrow HB.out.size (fun k hk => (owns_lt' HW.out hk).1)
            exact ⟨⟨hb2, .inr (.inl ⟨(by simpa using hown2), rfl⟩)⟩, by simp [intOf]⟩
        · have c0 := (hb.cell (p := ⟨g, 1, none⟩) hgl).trans hg1
          have HB := Lib.hid hb
          have HW := Lib.hid hown
          clear hb
          cases A' with
          | none =>
            have hown' := hown
            clear hown
            have hl0 : l' = [] := by
              rcases HR'.out with h | ⟨b, o, h, -⟩
              · exact List.eq_nil_of_length_eq_zero h
              · cases h
            subst hl0
            simp only [List.length_nil] at c0
            rcases hown'.2 with ⟨rfl, hq⟩ | ⟨g1, cap, cur, rfl, hq, hq1, hq2, hq3, -⟩
            · clear hown' hq
              go_wp2_with fail
              exact ⟨⟨HB.out, .inr (.inr ⟨(by simpa [flatK] using HW.out), rfl⟩)⟩, by simp [intOf]⟩
            · have hq4 : ¬ cap < 0 := by omega
              clear hown' hq hq1
              go_wp2_with fail
              exact ⟨⟨HB.out, .inr (.inr ⟨(by simpa [flatK] using HW.out), rfl⟩)⟩, by simp [intOf]⟩
          | some a =>
            have hS : ∀ j u, (flatK f' l'.length)[j]? = some u → wr.cell? (a.add j) = some u := fun j u hj => by
              rw [← rows_src (by decide) HR'.out SZ'.out j u hj]
              rcases HR'.out with h | ⟨b, o, h, hbB, -⟩
              · rw [h] at hj; simp [flatK] at hj
              · cases h
                rw [addN]
                exact HB.out.cell (Nat.lt_of_lt_of_le hbB hB)
            have HS := Lib.hid hS
            have hbw := HB.out.size
            have hln := flatK_len SZ'.out
            have HLN := Lib.hid hln
            clear hS hown hln
            go_wp2_with (at_builtin; refine wpList_append_own _ rfl _ _ 26 rfl w.heap.size 33 i0 (.agg #[.string { data := #[] }, .int .i64 0, .string { data := #[] }, .slice none 0 0, .slice none 0 0]) 5 88 Tryz.underlying26 hi hz0 hz1 hz2 rfl (by decide) _ l.length (flatK f l.length) rfl HW.out a l'.length c' (flatK f' l'.length) rfl ?qc1 ?qc2 ?qc3 ?qc4 ?qc5 ?qc6 ?_)
            case qc1 => exact HLN.out
            case qc2 => exact fun j u hj => HS.out j u hj
            case qc3 => exact ON'.out
            case qc4 => unfold maxLen; omega
            case qc5 => omega
            case qc6 => exact hbw
            intro v' w2 hown2 hgrow hnil
            go_wp2_with fail
            have hb2 : Below w.heap.size w w2 := HB.out.grown hgrow HB.out.size (fun k hk => (owns_lt' HW.out hk).1)
            exact ⟨⟨hb2, .inr (.inr ⟨(by simpa using hown2), rfl⟩)⟩, by simp [intOf]⟩
        · go_wp2_with fail
          go_ret
          rw [flatK_app] at hown
          have hsz : ∀ i, i < l.length + l'.length → (if i < l.length then f i else f' (i - l.length)).size = 5 := by
            intro i hi
            split
            · exact SZ.out i ‹_›
            · exact SZ'.out (i - l.length) (by omega)
          obtain ⟨A2, cap2, rfl, hcap, hrows⟩ := own_rows hown hsz
          refine ⟨A2, cap2, by rw [List.length_append]; rfl, by rw [List.length_append]; exact hcap, ⟨_, by rw [List.length_append]; exact hrows, fun i hi => ?_⟩, hb⟩
          rw [List.length_append] at hi
          have hsize := hb.size
          by_cases hlt : i < l.length
          · simp only [if_pos hlt]
            rw [List.getElem_append_left hlt]
            exact ((HN.out i hlt).keep fun q hq => hb.cell (by omega)).mono (by omega)
          · simp only [if_neg hlt]
            rw [List.getElem_append_right (by omega)]
            exact ((HN'.out (i - l.length) (by omega)).keep fun q hq => hb.cell (by omega)).mono (by omega)
end Go.Proofs.YtjeldfipipkfiaaGreat
