/- The contract of slices.Concat of two rows of strings, and of slices.Grow of nil. -/
import Derived.Test.YtalpmjmifcofeaaShelf
import Derived.Test.YtalpmjmifcofeaaBothA
namespace Go.Proofs.Ytalpmjmifcofeaa
open Go.RowKit
set_option linter.unusedSimpArgs false
set_option linter.unusedVariables false
theorem growS_c (n : Nat) (w : World) (hn : n ≤ 1000000) :
    Calls Try.prog 100 #[.slice none 0 0, .int .i64 n] w fun e w' => ∃ v, e = .returned v ∧ w'.ownsRow w.heap.size 9 1 v 0 [] ∧ Below w.heap.size w w' := by
  obtain ⟨i0, hi, hz0, hz1, hz2⟩ := info_parts info_str
  by_cases h0 : n = 0
  · subst h0
    refine (grow_room none 0 0 0 w (Nat.le_refl _) (by omega) (by omega) (by omega)).mono ?_
    rintro e w' ⟨rfl, rfl⟩
    exact ⟨_, rfl, World.ownsRow_nil _ _ _ _, Below.refl _ _⟩
  · refine (grow_nil i0 _ hi hz0 (by omega) hz2 n w (by omega) hn).mono ?_
    rintro e w' ⟨rfl, rfl⟩
    have hge := grownCap_ge w (0 + n) 0 9
    have hle := grownCap_le_maxLen w (0 + n) 0 9 (by unfold maxLen; omega)
    refine ⟨_, rfl, World.ownsRow_made (w := w.drew) _ _ (Nat.le_refl _) hle ?_, (Below.refl _ w).drew.alloc (Nat.le_refl _) _⟩
    rw [Array.size_append, Array.size_append, size_zeroCells, size_zeroCells]
    simp only [Value.cells, List.size_toArray, List.length_nil, List.length_cons]
    omega
theorem strs_cells {w : World} {B : Nat} {a : Addr} {l : List ByteArray} (h : StrsAt w B (some a) l) : ∀ j u, (l.map Value.string)[j]? = some u → w.cell? (a.add j) = some u := by
  intro j u hu
  rcases h with rfl | ⟨b, o, hA, -, hc⟩
  · simp at hu
  · cases hA
    have hj : j < l.length := by have := (List.getElem?_eq_some_iff.1 hu).1; simpa using this
    rw [addN, hc j hj, ← hu]
    simp [hj]
set_option maxHeartbeats 4000000 in
set_option maxRecDepth 100000 in
theorem cat_c (g : Nat) (A A' : Option Addr) (c c' B : Nat) (l l' : List ByteArray) (w : World) (h1 : StrsAt w B A l) (h2 : StrsAt w B A' l') (hB : B ≤ w.heap.size) (hg0 : w.cell? ⟨g, 0, none⟩ = some (.slice A l.length c)) (hg1 : w.cell? ⟨g, 1, none⟩ = some (.slice A' l'.length c'))
    (hgl : g < w.heap.size) (hl : l.length ≤ 1000) (hl' : l'.length ≤ 1000) :
    Calls Try.prog 83 #[.slice (some ⟨g, 0, none⟩) 2 2] w fun e w' => ∃ v, e = .returned v ∧ w'.ownsRow w.heap.size 9 1 v (l.length + l'.length) ((l ++ l').map Value.string) ∧ Below w.heap.size w w' := by
  obtain ⟨i0, hi, hz0, hz1, hz2⟩ := info_parts info_str
  have H1 := Lib.hid h1
  have H2 := Lib.hid h2
  clear h1 h2
  go_enter Try.func83, Try.ntmps83
  go_wp2_with fail
  go_loopw [3, 11] (fun s i wr => w = wr ∧ ((s = .int .i64 0 ∧ i = .int .i64 0) ∨ (s = .int .i64 l.length ∧ i = .int .i64 1) ∨ (s = .int .i64 ((l.length : Int) + (l'.length : Int)) ∧ i = .int .i64 2))) (fun _ i _ => 2 - (intOf i).toNat)
  case atStart => exact ⟨rfl, .inl ⟨rfl, rfl⟩⟩
  case round =>
    obtain ⟨rfl, ⟨rfl, rfl⟩ | ⟨rfl, rfl⟩ | ⟨rfl, rfl⟩⟩ := hrel
    · have hw0 : ¬ (l.length : Int) < 0 := by omega
      go_wp2_with fail
      exact ⟨⟨trivial, .inr (.inl ⟨rfl, rfl⟩)⟩, by simp [intOf]⟩
    · have hw0 : ¬ ((l.length : Int) + (l'.length : Int)) < 0 := by omega
      go_wp2_with fail
      exact ⟨⟨trivial, .inr (.inr ⟨rfl, rfl⟩)⟩, by simp [intOf]⟩
    · have hG := growS_c (l.length + l'.length) w (by omega)
      simp only [Int.natCast_add] at hG
      have HG := Lib.hid hG
      clear hG
      go_wp2_with (go_at_call 100; refine HG.out.mono ?_; rintro e w1 ⟨v0, rfl, hown0, hb0⟩; have HO := Lib.hid hown0; have HB0 := Lib.hid hb0; clear hown0 hb0)
      go_loopw [6, 27] (fun v i wk => Below w.heap.size w wk ∧ ((wk.ownsRow w.heap.size 9 1 v 0 [] ∧ i = .int .i64 0) ∨ (wk.ownsRow w.heap.size 9 1 v l.length (l.map Value.string) ∧ i = .int .i64 1) ∨ (wk.ownsRow w.heap.size 9 1 v (l.length + l'.length) ((l ++ l').map Value.string) ∧ i = .int .i64 2))) (fun _ i _ => 2 - (intOf i).toNat)
      case atStart => exact ⟨HB0.out, .inl ⟨HO.out, rfl⟩⟩
      case round =>
        obtain ⟨hb, ⟨hown, rfl⟩ | ⟨hown, rfl⟩ | ⟨hown, rfl⟩⟩ := hrel
        · have c0 := (hb.cell (p := ⟨g, 0, none⟩) hgl).trans hg0
          have HB := Lib.hid hb
          have HW := Lib.hid hown
          clear hb
          cases A with
          | none =>
            have hown' := hown
            clear hown
            have hl0 : l = [] := by
              rcases H1.out with h | ⟨b, o, h, -⟩
              · exact h
              · cases h
            subst hl0
            simp only [List.length_nil] at c0
            rcases hown'.2 with ⟨rfl, hq⟩ | ⟨g1, cap, cur, rfl, hq, hq1, hq2, hq3, -⟩
            · clear hown' hq
              go_wp2_with fail
              exact ⟨⟨HB.out, .inr (.inl ⟨(by simpa using HW.out), rfl⟩)⟩, by simp [intOf]⟩
            · have hq4 : ¬ cap < 0 := by omega
              clear hown' hq hq1
              go_wp2_with fail
              exact ⟨⟨HB.out, .inr (.inl ⟨(by simpa using HW.out), rfl⟩)⟩, by simp [intOf]⟩
          | some a =>
            have hS : ∀ j u, (l.map Value.string)[j]? = some u → wr.cell? (a.add j) = some u := fun j u hj => by
              rw [← strs_cells H1.out j u hj]
              rcases H1.out with h | ⟨b, o, h, hbB, -⟩
              · subst h; simp at hj
              · cases h
                rw [addN]
                exact HB.out.cell (Nat.lt_of_lt_of_le hbB hB)
            have HS := Lib.hid hS
            have hbw := HB.out.size
            clear hS hown
            go_wp2_with (at_builtin; refine wpList_append_own _ rfl _ _ 22 rfl w.heap.size 9 i0 (.string { data := #[] }) 1 16 Try.underlying22 hi hz0 hz1 hz2 rfl (by decide) _ 0 [] rfl HW.out a l.length c (l.map Value.string) rfl ?qc1 ?qc2 ?qc3 ?qc4 ?qc5 ?qc6 ?_)
            case qc1 => simp
            case qc2 => exact fun j u hj => HS.out j u hj
            case qc3 =>
              intro u hu
              obtain ⟨x, -, rfl⟩ := List.mem_map.1 hu
              rfl
            case qc4 => unfold maxLen; omega
            case qc5 => omega
            case qc6 => exact hbw
            intro v' w2 hown2 hgrow hnil
            go_wp2_with fail
            have hb2 : Below w.heap.size w w2 := HB.out.grown hgrow HB.out.size (fun k hk => (owns_lt HW.out hk).1)
            exact ⟨⟨hb2, .inr (.inl ⟨(by simpa using hown2), rfl⟩)⟩, by simp [intOf]⟩
        · have c0 := (hb.cell (p := ⟨g, 1, none⟩) hgl).trans hg1
          have HB := Lib.hid hb
          have HW := Lib.hid hown
          clear hb
          cases A' with
          | none =>
            have hown' := hown
            clear hown
            have hl0 : l' = [] := by
              rcases H2.out with h | ⟨b, o, h, -⟩
              · exact h
              · cases h
            subst hl0
            simp only [List.length_nil] at c0
            rcases hown'.2 with ⟨rfl, hq⟩ | ⟨g1, cap, cur, rfl, hq, hq1, hq2, hq3, -⟩
            · clear hown' hq
              go_wp2_with fail
              exact ⟨⟨HB.out, .inr (.inr ⟨(by simpa using HW.out), rfl⟩)⟩, by simp [intOf]⟩
            · have hq4 : ¬ cap < 0 := by omega
              clear hown' hq hq1
              go_wp2_with fail
              exact ⟨⟨HB.out, .inr (.inr ⟨(by simpa using HW.out), rfl⟩)⟩, by simp [intOf]⟩
          | some a =>
            have hS : ∀ j u, (l'.map Value.string)[j]? = some u → wr.cell? (a.add j) = some u := fun j u hj => by
              rw [← strs_cells H2.out j u hj]
              rcases H2.out with h | ⟨b, o, h, hbB, -⟩
              · subst h; simp at hj
              · cases h
                rw [addN]
                exact HB.out.cell (Nat.lt_of_lt_of_le hbB hB)
            have HS := Lib.hid hS
            have hbw := HB.out.size
            clear hS hown
            go_wp2_with (at_builtin; refine wpList_append_own _ rfl _ _ 22 rfl w.heap.size 9 i0 (.string { data := #[] }) 1 16 Try.underlying22 hi hz0 hz1 hz2 rfl (by decide) _ l.length (l.map Value.string) rfl HW.out a l'.length c' (l'.map Value.string) rfl ?qc1 ?qc2 ?qc3 ?qc4 ?qc5 ?qc6 ?_)
            case qc1 => simp
            case qc2 => exact fun j u hj => HS.out j u hj
            case qc3 =>
              intro u hu
              obtain ⟨x, -, rfl⟩ := List.mem_map.1 hu
              rfl
            case qc4 => unfold maxLen; omega
            case qc5 => omega
            case qc6 => exact hbw
            intro v' w2 hown2 hgrow hnil
            go_wp2_with fail
            have hb2 : Below w.heap.size w w2 := HB.out.grown hgrow HB.out.size (fun k hk => (owns_lt HW.out hk).1)
            exact ⟨⟨hb2, .inr (.inr ⟨(by simpa using hown2), rfl⟩)⟩, by simp [intOf]⟩
        · go_wp2_with fail
          go_ret
          exact ⟨_, rfl, hown, hb⟩
end Go.Proofs.Ytalpmjmifcofeaa
