/- The contract of manifest's words: dep; premises: the texts together are shorter than 4294967281 bytes; the library's number MaxLen reads as some int. -/
import Derived.Test.YtlpgkldialmofaaGreatDoorWords2
import Derived.Test.YtlpgkldialmofaaGreatDoorRngP
import Derived.Test.YtlpgkldialmofaaGreatDoorRegS
namespace Go.Proofs.YtlpgkldialmofaaGreatDoor
open Go.RowKit
set_option linter.unusedSimpArgs false
set_option linter.unusedVariables false
/-- a dep's cells -/
def depV (p : ByteArray) (R : (Int × Int × Int) × (Int × Int × Int)) : Array Value := #[.string p, .int .i64 R.1.1, .int .i64 R.1.2.1, .int .i64 R.1.2.2, .int .i64 R.2.1, .int .i64 R.2.2.1, .int .i64 R.2.2.2]
/-- a dep, taken off texts: its name, its range, whether it is one, and what is left -/
def depF (ts : List ByteArray) : ByteArray × ((Int × Int × Int) × (Int × Int × Int)) × Bool × List ByteArray :=
  ((nextF Idn.smallB ts).1.1, parR (catL ((nextF Idn.smallB ts).2.take 11)), (nextF Idn.smallB ts).1.2 && decide (parRE (catL ((nextF Idn.smallB ts).2.take 11)) = 0), (nextF Idn.smallB ts).2.drop 11)
theorem nextF_sub (p : ByteArray → Bool) (ts : List ByteArray) : (nextF p ts).2 = ts ∨ ∃ t, ts = t :: (nextF p ts).2 := by
  cases ts with
  | nil => exact .inl rfl
  | cons t r =>
    rw [nextF]
    split
    · exact .inr ⟨t, rfl⟩
    · exact .inl rfl
theorem catL_cons (t : ByteArray) (r : List ByteArray) : catL (t :: r) = t.data.toList ++ catL r := by simp [catL]
theorem nextF_len (p : ByteArray → Bool) (ts : List ByteArray) : (nextF p ts).2.length ≤ ts.length ∧ (catL (nextF p ts).2).length ≤ (catL ts).length ∧ ∀ t ∈ (nextF p ts).2, t ∈ ts := by
  rcases nextF_sub p ts with h | ⟨t, h⟩
  · rw [h]; exact ⟨Nat.le_refl _, Nat.le_refl _, fun _ h => h⟩
  · refine ⟨?_, ?_, ?_⟩
    · conv => rhs; rw [h]
      simp
    · conv => rhs; rw [h, catL_cons]
      simp
    · intro x hx; rw [h]; exact List.mem_cons_of_mem _ hx
theorem catL_drop (ts : List ByteArray) (n : Nat) : (catL (ts.drop n)).length ≤ (catL ts).length := by
  have e : catL ts = catL (ts.take n) ++ catL (ts.drop n) := by
    conv => lhs; rw [← List.take_append_drop n ts]
    simp only [catL, List.map_append, List.flatten_append]
  rw [e, List.length_append]
  omega
theorem put7_full {w : World} {g : Nat} {T : TypeId} {a0 a1 a2 a3 a4 a5 a6 : Value} (v0 v1 v2 v3 v4 v5 v6 : Value) (h : Blk w g #[a0, a1, a2, a3, a4, a5, a6] T) :
    Blk (((((((w.setCell ⟨g, 0, none⟩ v0).setCell ⟨g, 1, none⟩ v1).setCell ⟨g, 2, none⟩ v2).setCell ⟨g, 3, none⟩ v3).setCell ⟨g, 4, none⟩ v4).setCell ⟨g, 5, none⟩ v5).setCell ⟨g, 6, none⟩ v6) g #[v0, v1, v2, v3, v4, v5, v6] T := by
  have := ((((((h.set 0 v0).set 1 v1).set 2 v2).set 3 v3).set 4 v4).set 5 v5).set 6 v6
  simpa using this
theorem put7_bel {w w1 : World} {B g : Nat} (v0 v1 v2 v3 v4 v5 v6 : Value) (h : Below B w w1) (hg : B ≤ g) : Below B w (((((((w1.setCell ⟨g, 0, none⟩ v0).setCell ⟨g, 1, none⟩ v1).setCell ⟨g, 2, none⟩ v2).setCell ⟨g, 3, none⟩ v3).setCell ⟨g, 4, none⟩ v4).setCell ⟨g, 5, none⟩ v5).setCell ⟨g, 6, none⟩ v6) :=
  ((((((h.setCell (p := ⟨g, 0, none⟩) hg v0).setCell (p := ⟨g, 1, none⟩) hg v1).setCell (p := ⟨g, 2, none⟩) hg v2).setCell (p := ⟨g, 3, none⟩) hg v3).setCell (p := ⟨g, 4, none⟩) hg v4).setCell (p := ⟨g, 5, none⟩) hg v5).setCell (p := ⟨g, 6, none⟩) hg v6
theorem cells7 {w : World} {g : Nat} {T : TypeId} {x0 x1 x2 x3 x4 x5 x6 : Value} (h : Blk w g #[x0, x1, x2, x3, x4, x5, x6] T) :
    w.cell? ⟨g, 0, none⟩ = some x0 ∧ w.cell? ⟨g, 1, none⟩ = some x1 ∧ w.cell? ⟨g, 2, none⟩ = some x2 ∧ w.cell? ⟨g, 3, none⟩ = some x3 ∧ w.cell? ⟨g, 4, none⟩ = some x4 ∧ w.cell? ⟨g, 5, none⟩ = some x5 ∧ w.cell? ⟨g, 6, none⟩ = some x6 :=
  ⟨h.cell 0, h.cell 1, h.cell 2, h.cell 3, h.cell 4, h.cell 5, h.cell 6⟩
theorem maxW_aside {g : Nat} {w w' : World} (h : MaxW w) (ha : Aside g w w') (hg : 1 ≠ g) : MaxW w' := by
  obtain ⟨m, hm⟩ := h
  exact ⟨m, cell_aside ha hm hg⟩
set_option maxRecDepth 100000 in
set_option maxHeartbeats 8000000 in
theorem dep_c (g N : Nat) (ts : List ByteArray) (w : World) (h : WordsAt w g N ts) (hN : N ≤ w.heap.size) (hg : g < w.heap.size) (hm : MaxW w) (hgne : 1 ≠ g) (hcl : (catL ts).length < 4294967281) (hl : ts.length < 4294967281) (hts : ∀ t ∈ ts, t.size ≤ maxLen) :
    Calls Tryz.prog 15 #[.pointer (some ⟨g, 0, none⟩)] w fun e w' => e = .returned (.tuple #[.agg (depV (depF ts).1 (depF ts).2.1), .bool (depF ts).2.2.1]) ∧ WordsAt w' g N (depF ts).2.2.2 ∧ Below g w w' ∧ Aside g w w' := by
  obtain ⟨p, hp⟩ : ∃ x, (nextF Idn.smallB ts).1.1 = x := ⟨_, rfl⟩
  obtain ⟨is, his⟩ : ∃ x, (nextF Idn.smallB ts).1.2 = x := ⟨_, rfl⟩
  obtain ⟨us, hus⟩ : ∃ x, (nextF Idn.smallB ts).2 = x := ⟨_, rfl⟩
  have hnl := nextF_len Idn.smallB ts
  rw [hus] at hnl
  have hct := catL_take us 11
  obtain ⟨L, hL⟩ : ∃ x, catL (us.take 11) = x := ⟨_, rfl⟩
  rw [hL] at hct
  obtain ⟨R, hR⟩ : ∃ x, parR L = x := ⟨_, rfl⟩
  obtain ⟨E, hE⟩ : ∃ x, parRE L = x := ⟨_, rfl⟩
  have hd : depF ts = (p, R, is && decide (E = 0), us.drop 11) := by simp only [depF, hp, his, hus, hL, hR, hE]
  rw [hd]
  have C1 := fun w h => nextSmall_c g N ts w h hts
  simp only [hp, his, hus] at C1
  have C2 := fun w h hg => joined_c 11 g N us w h hg (by decide) (by decide) (by omega) (by omega)
  simp only [hL] at C2
  have C3 := fun w hm => parseR_c (ba L) w (by rw [ba_size]; omega) hm
  simp only [ba_data, hR, hE] at C3
  obtain ⟨⟨r1, r2, r3⟩, ⟨r4, r5, r6⟩⟩ := R
  simp only [rng] at C3
  have H1 := Lib.hid C1
  have H2 := Lib.hid C2
  have H3 := Lib.hid C3
  have H0 := Lib.hid h
  have HM := Lib.hid hm
  simp only [depV]
  clear C1 C2 C3 hp his hus hnl hct hL hR hE hd h hm hcl hl hts
  go_enter Tryz.func15, Tryz.ntmps15
  go_upto_region 1 with fail
  have x0 := Blk.new w #[.string { data := #[] }, .int .i64 0, .int .i64 0, .int .i64 0, .int .i64 0, .int .i64 0, .int .i64 0] 41
  have xb := (Below.refl w.heap.size w).alloc (Nat.le_refl _) (.cells #[.string { data := #[] }, .int .i64 0, .int .i64 0, .int .i64 0, .int .i64 0, .int .i64 0, .int .i64 0] 41)
  have hsz : (w.alloc (.cells #[.string { data := #[] }, .int .i64 0, .int .i64 0, .int .i64 0, .int .i64 0, .int .i64 0, .int .i64 0] 41)).heap.size = w.heap.size + 1 := by simp
  generalize (w.alloc (.cells #[.string { data := #[] }, .int .i64 0, .int .i64 0, .int .i64 0, .int .i64 0, .int .i64 0, .int .i64 0] 41)) = W at x0 xb hsz ⊢
  have BD := Lib.hid x0
  have A0 := Lib.hid (Aside.of (g := g) xb)
  have U0 := Lib.hid (xb.mono (Nat.le_of_lt hg))
  have HM0 := Lib.hid (HM.out.below xb)
  have W0 := Lib.hid (H0.out.of xb)
  have hdg : w.heap.size ≠ g := by omega
  have hgW : g < W.heap.size := by omega
  clear x0 xb
  go_upto_region 2 with (go_at_call 11; refine (H1.out _ W0.out).mono ?_; rintro e w1 ⟨rfl, h1, h2, h3⟩; have W1 := Lib.hid h1; have A1 := Lib.hid (A0.out.trans h3); have U1 := Lib.hid (U0.out.trans h2); have BD1 := Lib.hid (BD.out.aside h3 hdg); have hg1 : g < w1.heap.size := Nat.lt_of_lt_of_le hgW h3.size; have HM1 := Lib.hid (maxW_aside HM0.out h3 hgne); clear h1 h2 h3)
  go_upto_region 3 with (first
    | (go_at_call 14; refine (H2.out _ W1.out hg1).mono ?_; rintro e w2 ⟨rfl, h1, h2, h3⟩; have W2 := Lib.hid h1; have A2 := Lib.hid (A1.out.trans h3); have U2 := Lib.hid (U1.out.trans h2); have BD2 := Lib.hid (BD1.out.aside h3 hdg); have hg2 : g < w2.heap.size := Nat.lt_of_lt_of_le hg1 h3.size; have HM2 := Lib.hid (maxW_aside HM1.out h3 hgne); clear h1 h2 h3)
    | (go_at_call 36; refine (H3.out _ HM2.out).mono ?_; rintro e w3 ⟨rfl, hb⟩; have W3 := Lib.hid (W2.out.of hb); have A3 := Lib.hid (A2.out.trans (Aside.of hb)); have U3 := Lib.hid (U2.out.trans (hb.mono (Nat.le_of_lt hg2))); have BD3 := Lib.hid (BD2.out.under hb BD2.out.lt); have hg3 : g < w3.heap.size := Nat.lt_of_lt_of_le hg2 hb.size; clear hb))
  have BRr := Lib.hid (Blk.new w3 #[.int .i64 r1, .int .i64 r2, .int .i64 r3, .int .i64 r4, .int .i64 r5, .int .i64 r6] 39)
  have hb4 : Below w3.heap.size w3 (w3.alloc (.cells #[.int .i64 r1, .int .i64 r2, .int .i64 r3, .int .i64 r4, .int .i64 r5, .int .i64 r6] 39)) := (Below.refl _ _).alloc (Nat.le_refl _) _
  have W4 := Lib.hid (W3.out.of hb4)
  have A4 := Lib.hid (A3.out.trans (Aside.of hb4))
  have U4 := Lib.hid (U3.out.trans (hb4.mono (Nat.le_of_lt hg3)))
  have BD4 := Lib.hid (BD3.out.under hb4 BD3.out.lt)
  have hgr : g ≠ w3.heap.size := by omega
  have hgr2 : w.heap.size ≠ w3.heap.size := by have := BD3.out.lt; omega
  have hg4 : g < (w3.alloc (.cells #[.int .i64 r1, .int .i64 r2, .int .i64 r3, .int .i64 r4, .int .i64 r5, .int .i64 r6] 39)).heap.size := by simp; omega
  generalize hw4 : (w3.alloc (.cells #[.int .i64 r1, .int .i64 r2, .int .i64 r3, .int .i64 r4, .int .i64 r5, .int .i64 r6] 39)) = w4 at W4 A4 U4 BD4 BRr hg4 ⊢
  clear hw4 hb4
  generalize w3.heap.size = gr at BRr hgr hgr2 ⊢
  by_cases hE0 : E = 0
  · subst hE0
    rw [errV_0]
    cases is
    · skip
      refine wp_region_until [(8, fun w' => Blk w' gr #[.int .i64 r1, .int .i64 r2, .int .i64 r3, .int .i64 r4, .int .i64 r5, .int .i64 r6] 39)] (by kernel_rfl) (Until.cons (fun _ => BRr.out.drew) Until.nil) (fun hU => ?_)
      have BD5 := Lib.hid BD4.out.drew
      have U5 := Lib.hid U4.out.drew
      have A5 := Lib.hid (Aside.mk A4.out.size A4.out.block : Aside g w w4.drew)
      have W5 := Lib.hid (W4.out.of ((Below.refl _ _).drew))
      refine AnyU.take (i := 0) (v := ?_) rfl (by kernel_rfl) (by kernel_rfl) (by kernel_rfl) (fun _ _ _ h => h) (by kernel_rfl) (by assumption) (by rfl) ?_ (fun hV => ?_)
      rotate_left 1
      · (intro wq; go_simp; try with_reducible rfl)
      clear hU
      have hU := hV
      clear hV
      try simp only [Act.put, List.getElem_toArray, List.getElem_cons_zero, List.getElem_cons_succ, List.setIfInBounds_toArray, List.set_cons_zero, List.set_cons_succ]
      refine AnyU.loadc (i := 1) (d := 8) [2, 8] (Si := fun w' => Blk w' gr #[.int .i64 r1, .int .i64 r2, .int .i64 r3, .int .i64 r4, .int .i64 r5, .int .i64 r6] 39) (v := ?_) rfl (by kernel_rfl) (by kernel_rfl) (by kernel_rfl) (fun _ _ _ h => h) (by kernel_rfl) (by assumption) (by kernel_rfl) rfl (by simp) (by rfl) ?_ (fun hV => ?_)
      rotate_left 1
      · (intro wq hq; obtain ⟨u0, u1, u2, u3, u4, u5⟩ := cells6 hq; go_simp; try with_reducible rfl)
      clear hU
      have hU := hV
      clear hV
      try simp only [Act.put, List.getElem_toArray, List.getElem_cons_zero, List.getElem_cons_succ, List.setIfInBounds_toArray, List.set_cons_zero, List.set_cons_succ]
      refine AnyU.take (i := 2) (v := ?_) rfl (by kernel_rfl) (by kernel_rfl) (by kernel_rfl) (fun _ _ _ h => h) (by kernel_rfl) (by assumption) (by rfl) ?_ (fun hV => ?_)
      rotate_left 1
      · (intro wq; go_simp; try with_reducible rfl)
      clear hU
      have hU := hV
      clear hV
      try simp only [Act.put, List.getElem_toArray, List.getElem_cons_zero, List.getElem_cons_succ, List.setIfInBounds_toArray, List.set_cons_zero, List.set_cons_succ]
      refine AnyU.take (i := 3) (v := ?_) rfl (by kernel_rfl) (by kernel_rfl) (by kernel_rfl) (fun _ _ _ h => h) (by kernel_rfl) (by assumption) (by rfl) ?_ (fun hV => ?_)
      rotate_left 1
      · (intro wq; go_simp; try with_reducible rfl)
      clear hU
      have hU := hV
      clear hV
      try simp only [Act.put, List.getElem_toArray, List.getElem_cons_zero, List.getElem_cons_succ, List.setIfInBounds_toArray, List.set_cons_zero, List.set_cons_succ]
      refine AnyU.take (i := 4) (v := ?_) rfl (by kernel_rfl) (by kernel_rfl) (by kernel_rfl) (fun _ _ _ h => h) (by kernel_rfl) (by assumption) (by rfl) ?_ (fun hV => ?_)
      rotate_left 1
      · (intro wq; go_simp; try with_reducible rfl)
      clear hU
      have hU := hV
      clear hV
      try simp only [Act.put, List.getElem_toArray, List.getElem_cons_zero, List.getElem_cons_succ, List.setIfInBounds_toArray, List.set_cons_zero, List.set_cons_succ]
      refine AnyU.skip (i := 5) rfl (by kernel_rfl) (by kernel_rfl) (by kernel_rfl) (fun _ _ _ h => h) (by kernel_rfl) (by assumption) (by rfl) (fun hV => ?_)
      clear hU
      have hU := hV
      clear hV
      try simp only [Act.put, List.getElem_toArray, List.getElem_cons_zero, List.getElem_cons_succ, List.setIfInBounds_toArray, List.set_cons_zero, List.set_cons_succ]
      refine AnyU.skip (i := 6) rfl (by kernel_rfl) (by kernel_rfl) (by kernel_rfl) (fun _ _ _ h => h) (by kernel_rfl) (by assumption) (by rfl) (fun hV => ?_)
      clear hU
      have hU := hV
      clear hV
      try simp only [Act.put, List.getElem_toArray, List.getElem_cons_zero, List.getElem_cons_succ, List.setIfInBounds_toArray, List.set_cons_zero, List.set_cons_succ]
      refine AnyU.take (i := 7) (v := ?_) rfl (by kernel_rfl) (by kernel_rfl) (by kernel_rfl) (fun _ _ _ h => h) (by kernel_rfl) (by assumption) (by rfl) ?_ (fun hV => ?_)
      rotate_left 1
      · (intro wq; go_simp; try with_reducible rfl)
      clear hU
      have hU := hV
      clear hV
      try simp only [Act.put, List.getElem_toArray, List.getElem_cons_zero, List.getElem_cons_succ, List.setIfInBounds_toArray, List.set_cons_zero, List.set_cons_succ]
      obtain ⟨k0, k1, k2, k3, k4, k5, k6⟩ := cells7 BD4.out
      have f0 := BD4.out.free 0
      have f1 := BD4.out.free 1
      have f2 := BD4.out.free 2
      have f3 := BD4.out.free 3
      have f4 := BD4.out.free 4
      have f5 := BD4.out.free 5
      have f6 := BD4.out.free 6
      have lk := BD4.out.lt
      refine AnyU.ready1 (i := 8) (by kernel_rfl) (AnyU.one rfl fun K hK => ?_)
      go_simp
      refine hK.out _ _ (Until.off (by kernel_rfl)) (fun hV => ?_)
      clear hK K
      clear hU
      have hU := hV
      clear hV
      try simp only [Act.put, List.getElem_toArray, List.getElem_cons_zero, List.getElem_cons_succ, List.setIfInBounds_toArray, List.set_cons_zero, List.set_cons_succ]
      refine AnyU.take (i := 9) (v := ?_) rfl (by kernel_rfl) (by kernel_rfl) (by kernel_rfl) (fun _ _ _ h => h) (by kernel_rfl) (by assumption) (by rfl) ?_ (fun hV => ?_)
      rotate_left 1
      · (intro wq; go_simp; try with_reducible rfl)
      clear hU
      have hU := hV
      clear hV
      try simp only [Act.put, List.getElem_toArray, List.getElem_cons_zero, List.getElem_cons_succ, List.setIfInBounds_toArray, List.set_cons_zero, List.set_cons_succ]
      refine AnyU.done (by kernel_rfl) ?_
      have hp := (put7_full (.string p) (.int .i64 r1) (.int .i64 r2) (.int .i64 r3) (.int .i64 r4) (.int .i64 r5) (.int .i64 r6) BD4.out).drew
      have hu := (put7_bel (.string p) (.int .i64 r1) (.int .i64 r2) (.int .i64 r3) (.int .i64 r4) (.int .i64 r5) (.int .i64 r6) U4.out (Nat.le_of_lt hg)).drew
      have hws := ((((((((W4.out.far hN (fun e => hdg e.symm) 0 (.string p)).far hN (fun e => hdg e.symm) 1 (.int .i64 r1)).far hN (fun e => hdg e.symm) 2 (.int .i64 r2)).far hN (fun e => hdg e.symm) 3 (.int .i64 r3)).far hN (fun e => hdg e.symm) 4 (.int .i64 r4)).far hN (fun e => hdg e.symm) 5 (.int .i64 r5)).far hN (fun e => hdg e.symm) 6 (.int .i64 r6))).of ((Below.refl _ _).drew)
      have has := ((((((((A4.out.far (Nat.le_refl _) 0 (.string p)).far (Nat.le_refl _) 1 (.int .i64 r1)).far (Nat.le_refl _) 2 (.int .i64 r2)).far (Nat.le_refl _) 3 (.int .i64 r3)).far (Nat.le_refl _) 4 (.int .i64 r4)).far (Nat.le_refl _) 5 (.int .i64 r5)).far (Nat.le_refl _) 6 (.int .i64 r6))).trans (Aside.of ((Below.refl _ _).drew))
      generalize (((((((w4.setCell ⟨w.heap.size, 0, none⟩ (.string p)).setCell ⟨w.heap.size, 1, none⟩ (.int .i64 r1)).setCell ⟨w.heap.size, 2, none⟩ (.int .i64 r2)).setCell ⟨w.heap.size, 3, none⟩ (.int .i64 r3)).setCell ⟨w.heap.size, 4, none⟩ (.int .i64 r4)).setCell ⟨w.heap.size, 5, none⟩ (.int .i64 r5)).setCell ⟨w.heap.size, 6, none⟩ (.int .i64 r6)).drew = Wz at hp hu hws has ⊢
      obtain ⟨q0, q1, q2, q3, q4, q5, q6⟩ := cells7 hp
      clear k0 k1 k2 k3 k4 k5 k6 f0 f1 f2 f3 f4 f5 f6 lk
      go_wp2_with fail
      refine bodyPost_ret (by simp [results, Tryz.results15, go_sem, q0, q1, q2, q3, q4, q5, q6]; try rfl) rfl ?_
      exact ⟨rfl, hws, hu, has⟩
    · skip
      refine wp_region_until [(8, fun w' => Blk w' gr #[.int .i64 r1, .int .i64 r2, .int .i64 r3, .int .i64 r4, .int .i64 r5, .int .i64 r6] 39)] (by kernel_rfl) (Until.cons (fun _ => BRr.out.drew) Until.nil) (fun hU => ?_)
      have BD5 := Lib.hid BD4.out.drew
      have U5 := Lib.hid U4.out.drew
      have A5 := Lib.hid (Aside.mk A4.out.size A4.out.block : Aside g w w4.drew)
      have W5 := Lib.hid (W4.out.of ((Below.refl _ _).drew))
      refine AnyU.take (i := 0) (v := ?_) rfl (by kernel_rfl) (by kernel_rfl) (by kernel_rfl) (fun _ _ _ h => h) (by kernel_rfl) (by assumption) (by rfl) ?_ (fun hV => ?_)
      rotate_left 1
      · (intro wq; go_simp; try with_reducible rfl)
      clear hU
      have hU := hV
      clear hV
      try simp only [Act.put, List.getElem_toArray, List.getElem_cons_zero, List.getElem_cons_succ, List.setIfInBounds_toArray, List.set_cons_zero, List.set_cons_succ]
      refine AnyU.loadc (i := 1) (d := 8) [2, 8] (Si := fun w' => Blk w' gr #[.int .i64 r1, .int .i64 r2, .int .i64 r3, .int .i64 r4, .int .i64 r5, .int .i64 r6] 39) (v := ?_) rfl (by kernel_rfl) (by kernel_rfl) (by kernel_rfl) (fun _ _ _ h => h) (by kernel_rfl) (by assumption) (by kernel_rfl) rfl (by simp) (by rfl) ?_ (fun hV => ?_)
      rotate_left 1
      · (intro wq hq; obtain ⟨u0, u1, u2, u3, u4, u5⟩ := cells6 hq; go_simp; try with_reducible rfl)
      clear hU
      have hU := hV
      clear hV
      try simp only [Act.put, List.getElem_toArray, List.getElem_cons_zero, List.getElem_cons_succ, List.setIfInBounds_toArray, List.set_cons_zero, List.set_cons_succ]
      refine AnyU.take (i := 2) (v := ?_) rfl (by kernel_rfl) (by kernel_rfl) (by kernel_rfl) (fun _ _ _ h => h) (by kernel_rfl) (by assumption) (by rfl) ?_ (fun hV => ?_)
      rotate_left 1
      · (intro wq; go_simp; try with_reducible rfl)
      clear hU
      have hU := hV
      clear hV
      try simp only [Act.put, List.getElem_toArray, List.getElem_cons_zero, List.getElem_cons_succ, List.setIfInBounds_toArray, List.set_cons_zero, List.set_cons_succ]
      refine AnyU.take (i := 3) (v := ?_) rfl (by kernel_rfl) (by kernel_rfl) (by kernel_rfl) (fun _ _ _ h => h) (by kernel_rfl) (by assumption) (by rfl) ?_ (fun hV => ?_)
      rotate_left 1
      · (intro wq; go_simp; try with_reducible rfl)
      clear hU
      have hU := hV
      clear hV
      try simp only [Act.put, List.getElem_toArray, List.getElem_cons_zero, List.getElem_cons_succ, List.setIfInBounds_toArray, List.set_cons_zero, List.set_cons_succ]
      refine AnyU.take (i := 4) (v := ?_) rfl (by kernel_rfl) (by kernel_rfl) (by kernel_rfl) (fun _ _ _ h => h) (by kernel_rfl) (by assumption) (by rfl) ?_ (fun hV => ?_)
      rotate_left 1
      · (intro wq; go_simp; try with_reducible rfl)
      clear hU
      have hU := hV
      clear hV
      try simp only [Act.put, List.getElem_toArray, List.getElem_cons_zero, List.getElem_cons_succ, List.setIfInBounds_toArray, List.set_cons_zero, List.set_cons_succ]
      refine AnyU.take (i := 5) (v := ?_) rfl (by kernel_rfl) (by kernel_rfl) (by kernel_rfl) (fun _ _ _ h => h) (by kernel_rfl) (by assumption) (by rfl) ?_ (fun hV => ?_)
      rotate_left 1
      · (intro wq; go_simp; try with_reducible rfl)
      clear hU
      have hU := hV
      clear hV
      try simp only [Act.put, List.getElem_toArray, List.getElem_cons_zero, List.getElem_cons_succ, List.setIfInBounds_toArray, List.set_cons_zero, List.set_cons_succ]
      refine AnyU.take (i := 6) (v := ?_) rfl (by kernel_rfl) (by kernel_rfl) (by kernel_rfl) (fun _ _ _ h => h) (by kernel_rfl) (by assumption) (by rfl) ?_ (fun hV => ?_)
      rotate_left 1
      · (intro wq; go_simp; try with_reducible rfl)
      clear hU
      have hU := hV
      clear hV
      try simp only [Act.put, List.getElem_toArray, List.getElem_cons_zero, List.getElem_cons_succ, List.setIfInBounds_toArray, List.set_cons_zero, List.set_cons_succ]
      refine AnyU.take (i := 7) (v := ?_) rfl (by kernel_rfl) (by kernel_rfl) (by kernel_rfl) (fun _ _ _ h => h) (by kernel_rfl) (by assumption) (by rfl) ?_ (fun hV => ?_)
      rotate_left 1
      · (intro wq; go_simp; try with_reducible rfl)
      clear hU
      have hU := hV
      clear hV
      try simp only [Act.put, List.getElem_toArray, List.getElem_cons_zero, List.getElem_cons_succ, List.setIfInBounds_toArray, List.set_cons_zero, List.set_cons_succ]
      obtain ⟨k0, k1, k2, k3, k4, k5, k6⟩ := cells7 BD4.out
      have f0 := BD4.out.free 0
      have f1 := BD4.out.free 1
      have f2 := BD4.out.free 2
      have f3 := BD4.out.free 3
      have f4 := BD4.out.free 4
      have f5 := BD4.out.free 5
      have f6 := BD4.out.free 6
      have lk := BD4.out.lt
      refine AnyU.ready1 (i := 8) (by kernel_rfl) (AnyU.one rfl fun K hK => ?_)
      go_simp
      refine hK.out _ _ (Until.off (by kernel_rfl)) (fun hV => ?_)
      clear hK K
      clear hU
      have hU := hV
      clear hV
      try simp only [Act.put, List.getElem_toArray, List.getElem_cons_zero, List.getElem_cons_succ, List.setIfInBounds_toArray, List.set_cons_zero, List.set_cons_succ]
      refine AnyU.take (i := 9) (v := ?_) rfl (by kernel_rfl) (by kernel_rfl) (by kernel_rfl) (fun _ _ _ h => h) (by kernel_rfl) (by assumption) (by rfl) ?_ (fun hV => ?_)
      rotate_left 1
      · (intro wq; go_simp; try with_reducible rfl)
      clear hU
      have hU := hV
      clear hV
      try simp only [Act.put, List.getElem_toArray, List.getElem_cons_zero, List.getElem_cons_succ, List.setIfInBounds_toArray, List.set_cons_zero, List.set_cons_succ]
      refine AnyU.done (by kernel_rfl) ?_
      have hp := (put7_full (.string p) (.int .i64 r1) (.int .i64 r2) (.int .i64 r3) (.int .i64 r4) (.int .i64 r5) (.int .i64 r6) BD4.out).drew
      have hu := (put7_bel (.string p) (.int .i64 r1) (.int .i64 r2) (.int .i64 r3) (.int .i64 r4) (.int .i64 r5) (.int .i64 r6) U4.out (Nat.le_of_lt hg)).drew
      have hws := ((((((((W4.out.far hN (fun e => hdg e.symm) 0 (.string p)).far hN (fun e => hdg e.symm) 1 (.int .i64 r1)).far hN (fun e => hdg e.symm) 2 (.int .i64 r2)).far hN (fun e => hdg e.symm) 3 (.int .i64 r3)).far hN (fun e => hdg e.symm) 4 (.int .i64 r4)).far hN (fun e => hdg e.symm) 5 (.int .i64 r5)).far hN (fun e => hdg e.symm) 6 (.int .i64 r6))).of ((Below.refl _ _).drew)
      have has := ((((((((A4.out.far (Nat.le_refl _) 0 (.string p)).far (Nat.le_refl _) 1 (.int .i64 r1)).far (Nat.le_refl _) 2 (.int .i64 r2)).far (Nat.le_refl _) 3 (.int .i64 r3)).far (Nat.le_refl _) 4 (.int .i64 r4)).far (Nat.le_refl _) 5 (.int .i64 r5)).far (Nat.le_refl _) 6 (.int .i64 r6))).trans (Aside.of ((Below.refl _ _).drew))
      generalize (((((((w4.setCell ⟨w.heap.size, 0, none⟩ (.string p)).setCell ⟨w.heap.size, 1, none⟩ (.int .i64 r1)).setCell ⟨w.heap.size, 2, none⟩ (.int .i64 r2)).setCell ⟨w.heap.size, 3, none⟩ (.int .i64 r3)).setCell ⟨w.heap.size, 4, none⟩ (.int .i64 r4)).setCell ⟨w.heap.size, 5, none⟩ (.int .i64 r5)).setCell ⟨w.heap.size, 6, none⟩ (.int .i64 r6)).drew = Wz at hp hu hws has ⊢
      obtain ⟨q0, q1, q2, q3, q4, q5, q6⟩ := cells7 hp
      clear k0 k1 k2 k3 k4 k5 k6 f0 f1 f2 f3 f4 f5 f6 lk
      go_wp2_with fail
      refine bodyPost_ret (by simp [results, Tryz.results15, go_sem, q0, q1, q2, q3, q4, q5, q6]; try rfl) rfl ?_
      exact ⟨rfl, hws, hu, has⟩
  · rw [errV_ne hE0]
    have hEd : decide (E = 0) = false := by simp [hE0]
    have HEd := Lib.hid hEd
    clear hE0 hEd
    cases is
    · skip
      refine wp_region_until [(8, fun w' => Blk w' gr #[.int .i64 r1, .int .i64 r2, .int .i64 r3, .int .i64 r4, .int .i64 r5, .int .i64 r6] 39)] (by kernel_rfl) (Until.cons (fun _ => BRr.out.drew) Until.nil) (fun hU => ?_)
      have BD5 := Lib.hid BD4.out.drew
      have U5 := Lib.hid U4.out.drew
      have A5 := Lib.hid (Aside.mk A4.out.size A4.out.block : Aside g w w4.drew)
      have W5 := Lib.hid (W4.out.of ((Below.refl _ _).drew))
      refine AnyU.take (i := 0) (v := ?_) rfl (by kernel_rfl) (by kernel_rfl) (by kernel_rfl) (fun _ _ _ h => h) (by kernel_rfl) (by assumption) (by rfl) ?_ (fun hV => ?_)
      rotate_left 1
      · (intro wq; go_simp; try with_reducible rfl)
      clear hU
      have hU := hV
      clear hV
      try simp only [Act.put, List.getElem_toArray, List.getElem_cons_zero, List.getElem_cons_succ, List.setIfInBounds_toArray, List.set_cons_zero, List.set_cons_succ]
      refine AnyU.loadc (i := 1) (d := 8) [2, 8] (Si := fun w' => Blk w' gr #[.int .i64 r1, .int .i64 r2, .int .i64 r3, .int .i64 r4, .int .i64 r5, .int .i64 r6] 39) (v := ?_) rfl (by kernel_rfl) (by kernel_rfl) (by kernel_rfl) (fun _ _ _ h => h) (by kernel_rfl) (by assumption) (by kernel_rfl) rfl (by simp) (by rfl) ?_ (fun hV => ?_)
      rotate_left 1
      · (intro wq hq; obtain ⟨u0, u1, u2, u3, u4, u5⟩ := cells6 hq; go_simp; try with_reducible rfl)
      clear hU
      have hU := hV
      clear hV
      try simp only [Act.put, List.getElem_toArray, List.getElem_cons_zero, List.getElem_cons_succ, List.setIfInBounds_toArray, List.set_cons_zero, List.set_cons_succ]
      refine AnyU.take (i := 2) (v := ?_) rfl (by kernel_rfl) (by kernel_rfl) (by kernel_rfl) (fun _ _ _ h => h) (by kernel_rfl) (by assumption) (by rfl) ?_ (fun hV => ?_)
      rotate_left 1
      · (intro wq; go_simp; try with_reducible rfl)
      clear hU
      have hU := hV
      clear hV
      try simp only [Act.put, List.getElem_toArray, List.getElem_cons_zero, List.getElem_cons_succ, List.setIfInBounds_toArray, List.set_cons_zero, List.set_cons_succ]
      refine AnyU.take (i := 3) (v := ?_) rfl (by kernel_rfl) (by kernel_rfl) (by kernel_rfl) (fun _ _ _ h => h) (by kernel_rfl) (by assumption) (by rfl) ?_ (fun hV => ?_)
      rotate_left 1
      · (intro wq; go_simp; try with_reducible rfl)
      clear hU
      have hU := hV
      clear hV
      try simp only [Act.put, List.getElem_toArray, List.getElem_cons_zero, List.getElem_cons_succ, List.setIfInBounds_toArray, List.set_cons_zero, List.set_cons_succ]
      refine AnyU.take (i := 4) (v := ?_) rfl (by kernel_rfl) (by kernel_rfl) (by kernel_rfl) (fun _ _ _ h => h) (by kernel_rfl) (by assumption) (by rfl) ?_ (fun hV => ?_)
      rotate_left 1
      · (intro wq; go_simp; try with_reducible rfl)
      clear hU
      have hU := hV
      clear hV
      try simp only [Act.put, List.getElem_toArray, List.getElem_cons_zero, List.getElem_cons_succ, List.setIfInBounds_toArray, List.set_cons_zero, List.set_cons_succ]
      refine AnyU.skip (i := 5) rfl (by kernel_rfl) (by kernel_rfl) (by kernel_rfl) (fun _ _ _ h => h) (by kernel_rfl) (by assumption) (by rfl) (fun hV => ?_)
      clear hU
      have hU := hV
      clear hV
      try simp only [Act.put, List.getElem_toArray, List.getElem_cons_zero, List.getElem_cons_succ, List.setIfInBounds_toArray, List.set_cons_zero, List.set_cons_succ]
      refine AnyU.skip (i := 6) rfl (by kernel_rfl) (by kernel_rfl) (by kernel_rfl) (fun _ _ _ h => h) (by kernel_rfl) (by assumption) (by rfl) (fun hV => ?_)
      clear hU
      have hU := hV
      clear hV
      try simp only [Act.put, List.getElem_toArray, List.getElem_cons_zero, List.getElem_cons_succ, List.setIfInBounds_toArray, List.set_cons_zero, List.set_cons_succ]
      refine AnyU.take (i := 7) (v := ?_) rfl (by kernel_rfl) (by kernel_rfl) (by kernel_rfl) (fun _ _ _ h => h) (by kernel_rfl) (by assumption) (by rfl) ?_ (fun hV => ?_)
      rotate_left 1
      · (intro wq; go_simp; try with_reducible rfl)
      clear hU
      have hU := hV
      clear hV
      try simp only [Act.put, List.getElem_toArray, List.getElem_cons_zero, List.getElem_cons_succ, List.setIfInBounds_toArray, List.set_cons_zero, List.set_cons_succ]
      obtain ⟨k0, k1, k2, k3, k4, k5, k6⟩ := cells7 BD4.out
      have f0 := BD4.out.free 0
      have f1 := BD4.out.free 1
      have f2 := BD4.out.free 2
      have f3 := BD4.out.free 3
      have f4 := BD4.out.free 4
      have f5 := BD4.out.free 5
      have f6 := BD4.out.free 6
      have lk := BD4.out.lt
      refine AnyU.ready1 (i := 8) (by kernel_rfl) (AnyU.one rfl fun K hK => ?_)
      go_simp
      refine hK.out _ _ (Until.off (by kernel_rfl)) (fun hV => ?_)
      clear hK K
      clear hU
      have hU := hV
      clear hV
      try simp only [Act.put, List.getElem_toArray, List.getElem_cons_zero, List.getElem_cons_succ, List.setIfInBounds_toArray, List.set_cons_zero, List.set_cons_succ]
      refine AnyU.take (i := 9) (v := ?_) rfl (by kernel_rfl) (by kernel_rfl) (by kernel_rfl) (fun _ _ _ h => h) (by kernel_rfl) (by assumption) (by rfl) ?_ (fun hV => ?_)
      rotate_left 1
      · (intro wq; go_simp; try with_reducible rfl)
      clear hU
      have hU := hV
      clear hV
      try simp only [Act.put, List.getElem_toArray, List.getElem_cons_zero, List.getElem_cons_succ, List.setIfInBounds_toArray, List.set_cons_zero, List.set_cons_succ]
      refine AnyU.done (by kernel_rfl) ?_
      have hp := (put7_full (.string p) (.int .i64 r1) (.int .i64 r2) (.int .i64 r3) (.int .i64 r4) (.int .i64 r5) (.int .i64 r6) BD4.out).drew
      have hu := (put7_bel (.string p) (.int .i64 r1) (.int .i64 r2) (.int .i64 r3) (.int .i64 r4) (.int .i64 r5) (.int .i64 r6) U4.out (Nat.le_of_lt hg)).drew
      have hws := ((((((((W4.out.far hN (fun e => hdg e.symm) 0 (.string p)).far hN (fun e => hdg e.symm) 1 (.int .i64 r1)).far hN (fun e => hdg e.symm) 2 (.int .i64 r2)).far hN (fun e => hdg e.symm) 3 (.int .i64 r3)).far hN (fun e => hdg e.symm) 4 (.int .i64 r4)).far hN (fun e => hdg e.symm) 5 (.int .i64 r5)).far hN (fun e => hdg e.symm) 6 (.int .i64 r6))).of ((Below.refl _ _).drew)
      have has := ((((((((A4.out.far (Nat.le_refl _) 0 (.string p)).far (Nat.le_refl _) 1 (.int .i64 r1)).far (Nat.le_refl _) 2 (.int .i64 r2)).far (Nat.le_refl _) 3 (.int .i64 r3)).far (Nat.le_refl _) 4 (.int .i64 r4)).far (Nat.le_refl _) 5 (.int .i64 r5)).far (Nat.le_refl _) 6 (.int .i64 r6))).trans (Aside.of ((Below.refl _ _).drew))
      generalize (((((((w4.setCell ⟨w.heap.size, 0, none⟩ (.string p)).setCell ⟨w.heap.size, 1, none⟩ (.int .i64 r1)).setCell ⟨w.heap.size, 2, none⟩ (.int .i64 r2)).setCell ⟨w.heap.size, 3, none⟩ (.int .i64 r3)).setCell ⟨w.heap.size, 4, none⟩ (.int .i64 r4)).setCell ⟨w.heap.size, 5, none⟩ (.int .i64 r5)).setCell ⟨w.heap.size, 6, none⟩ (.int .i64 r6)).drew = Wz at hp hu hws has ⊢
      obtain ⟨q0, q1, q2, q3, q4, q5, q6⟩ := cells7 hp
      clear k0 k1 k2 k3 k4 k5 k6 f0 f1 f2 f3 f4 f5 f6 lk
      go_wp2_with fail
      refine bodyPost_ret (by simp [results, Tryz.results15, go_sem, q0, q1, q2, q3, q4, q5, q6]; try rfl) rfl ?_
      exact ⟨rfl, hws, hu, has⟩
    · skip
      refine wp_region_until [(8, fun w' => Blk w' gr #[.int .i64 r1, .int .i64 r2, .int .i64 r3, .int .i64 r4, .int .i64 r5, .int .i64 r6] 39)] (by kernel_rfl) (Until.cons (fun _ => BRr.out.drew) Until.nil) (fun hU => ?_)
      have BD5 := Lib.hid BD4.out.drew
      have U5 := Lib.hid U4.out.drew
      have A5 := Lib.hid (Aside.mk A4.out.size A4.out.block : Aside g w w4.drew)
      have W5 := Lib.hid (W4.out.of ((Below.refl _ _).drew))
      refine AnyU.take (i := 0) (v := ?_) rfl (by kernel_rfl) (by kernel_rfl) (by kernel_rfl) (fun _ _ _ h => h) (by kernel_rfl) (by assumption) (by rfl) ?_ (fun hV => ?_)
      rotate_left 1
      · (intro wq; go_simp; try with_reducible rfl)
      clear hU
      have hU := hV
      clear hV
      try simp only [Act.put, List.getElem_toArray, List.getElem_cons_zero, List.getElem_cons_succ, List.setIfInBounds_toArray, List.set_cons_zero, List.set_cons_succ]
      refine AnyU.loadc (i := 1) (d := 8) [2, 8] (Si := fun w' => Blk w' gr #[.int .i64 r1, .int .i64 r2, .int .i64 r3, .int .i64 r4, .int .i64 r5, .int .i64 r6] 39) (v := ?_) rfl (by kernel_rfl) (by kernel_rfl) (by kernel_rfl) (fun _ _ _ h => h) (by kernel_rfl) (by assumption) (by kernel_rfl) rfl (by simp) (by rfl) ?_ (fun hV => ?_)
      rotate_left 1
      · (intro wq hq; obtain ⟨u0, u1, u2, u3, u4, u5⟩ := cells6 hq; go_simp; try with_reducible rfl)
      clear hU
      have hU := hV
      clear hV
      try simp only [Act.put, List.getElem_toArray, List.getElem_cons_zero, List.getElem_cons_succ, List.setIfInBounds_toArray, List.set_cons_zero, List.set_cons_succ]
      refine AnyU.take (i := 2) (v := ?_) rfl (by kernel_rfl) (by kernel_rfl) (by kernel_rfl) (fun _ _ _ h => h) (by kernel_rfl) (by assumption) (by rfl) ?_ (fun hV => ?_)
      rotate_left 1
      · (intro wq; go_simp; try with_reducible rfl)
      clear hU
      have hU := hV
      clear hV
      try simp only [Act.put, List.getElem_toArray, List.getElem_cons_zero, List.getElem_cons_succ, List.setIfInBounds_toArray, List.set_cons_zero, List.set_cons_succ]
      refine AnyU.take (i := 3) (v := ?_) rfl (by kernel_rfl) (by kernel_rfl) (by kernel_rfl) (fun _ _ _ h => h) (by kernel_rfl) (by assumption) (by rfl) ?_ (fun hV => ?_)
      rotate_left 1
      · (intro wq; go_simp; try with_reducible rfl)
      clear hU
      have hU := hV
      clear hV
      try simp only [Act.put, List.getElem_toArray, List.getElem_cons_zero, List.getElem_cons_succ, List.setIfInBounds_toArray, List.set_cons_zero, List.set_cons_succ]
      refine AnyU.take (i := 4) (v := ?_) rfl (by kernel_rfl) (by kernel_rfl) (by kernel_rfl) (fun _ _ _ h => h) (by kernel_rfl) (by assumption) (by rfl) ?_ (fun hV => ?_)
      rotate_left 1
      · (intro wq; go_simp; try with_reducible rfl)
      clear hU
      have hU := hV
      clear hV
      try simp only [Act.put, List.getElem_toArray, List.getElem_cons_zero, List.getElem_cons_succ, List.setIfInBounds_toArray, List.set_cons_zero, List.set_cons_succ]
      refine AnyU.take (i := 5) (v := ?_) rfl (by kernel_rfl) (by kernel_rfl) (by kernel_rfl) (fun _ _ _ h => h) (by kernel_rfl) (by assumption) (by rfl) ?_ (fun hV => ?_)
      rotate_left 1
      · (intro wq; go_simp; try with_reducible rfl)
      clear hU
      have hU := hV
      clear hV
      try simp only [Act.put, List.getElem_toArray, List.getElem_cons_zero, List.getElem_cons_succ, List.setIfInBounds_toArray, List.set_cons_zero, List.set_cons_succ]
      refine AnyU.take (i := 6) (v := ?_) rfl (by kernel_rfl) (by kernel_rfl) (by kernel_rfl) (fun _ _ _ h => h) (by kernel_rfl) (by assumption) (by rfl) ?_ (fun hV => ?_)
      rotate_left 1
      · (intro wq; go_simp; try with_reducible rfl)
      clear hU
      have hU := hV
      clear hV
      try simp only [Act.put, List.getElem_toArray, List.getElem_cons_zero, List.getElem_cons_succ, List.setIfInBounds_toArray, List.set_cons_zero, List.set_cons_succ]
      refine AnyU.take (i := 7) (v := ?_) rfl (by kernel_rfl) (by kernel_rfl) (by kernel_rfl) (fun _ _ _ h => h) (by kernel_rfl) (by assumption) (by rfl) ?_ (fun hV => ?_)
      rotate_left 1
      · (intro wq; go_simp; try with_reducible rfl)
      clear hU
      have hU := hV
      clear hV
      try simp only [Act.put, List.getElem_toArray, List.getElem_cons_zero, List.getElem_cons_succ, List.setIfInBounds_toArray, List.set_cons_zero, List.set_cons_succ]
      obtain ⟨k0, k1, k2, k3, k4, k5, k6⟩ := cells7 BD4.out
      have f0 := BD4.out.free 0
      have f1 := BD4.out.free 1
      have f2 := BD4.out.free 2
      have f3 := BD4.out.free 3
      have f4 := BD4.out.free 4
      have f5 := BD4.out.free 5
      have f6 := BD4.out.free 6
      have lk := BD4.out.lt
      refine AnyU.ready1 (i := 8) (by kernel_rfl) (AnyU.one rfl fun K hK => ?_)
      go_simp
      refine hK.out _ _ (Until.off (by kernel_rfl)) (fun hV => ?_)
      clear hK K
      clear hU
      have hU := hV
      clear hV
      try simp only [Act.put, List.getElem_toArray, List.getElem_cons_zero, List.getElem_cons_succ, List.setIfInBounds_toArray, List.set_cons_zero, List.set_cons_succ]
      refine AnyU.take (i := 9) (v := ?_) rfl (by kernel_rfl) (by kernel_rfl) (by kernel_rfl) (fun _ _ _ h => h) (by kernel_rfl) (by assumption) (by rfl) ?_ (fun hV => ?_)
      rotate_left 1
      · (intro wq; go_simp; try with_reducible rfl)
      clear hU
      have hU := hV
      clear hV
      try simp only [Act.put, List.getElem_toArray, List.getElem_cons_zero, List.getElem_cons_succ, List.setIfInBounds_toArray, List.set_cons_zero, List.set_cons_succ]
      refine AnyU.done (by kernel_rfl) ?_
      have hp := (put7_full (.string p) (.int .i64 r1) (.int .i64 r2) (.int .i64 r3) (.int .i64 r4) (.int .i64 r5) (.int .i64 r6) BD4.out).drew
      have hu := (put7_bel (.string p) (.int .i64 r1) (.int .i64 r2) (.int .i64 r3) (.int .i64 r4) (.int .i64 r5) (.int .i64 r6) U4.out (Nat.le_of_lt hg)).drew
      have hws := ((((((((W4.out.far hN (fun e => hdg e.symm) 0 (.string p)).far hN (fun e => hdg e.symm) 1 (.int .i64 r1)).far hN (fun e => hdg e.symm) 2 (.int .i64 r2)).far hN (fun e => hdg e.symm) 3 (.int .i64 r3)).far hN (fun e => hdg e.symm) 4 (.int .i64 r4)).far hN (fun e => hdg e.symm) 5 (.int .i64 r5)).far hN (fun e => hdg e.symm) 6 (.int .i64 r6))).of ((Below.refl _ _).drew)
      have has := ((((((((A4.out.far (Nat.le_refl _) 0 (.string p)).far (Nat.le_refl _) 1 (.int .i64 r1)).far (Nat.le_refl _) 2 (.int .i64 r2)).far (Nat.le_refl _) 3 (.int .i64 r3)).far (Nat.le_refl _) 4 (.int .i64 r4)).far (Nat.le_refl _) 5 (.int .i64 r5)).far (Nat.le_refl _) 6 (.int .i64 r6))).trans (Aside.of ((Below.refl _ _).drew))
      generalize (((((((w4.setCell ⟨w.heap.size, 0, none⟩ (.string p)).setCell ⟨w.heap.size, 1, none⟩ (.int .i64 r1)).setCell ⟨w.heap.size, 2, none⟩ (.int .i64 r2)).setCell ⟨w.heap.size, 3, none⟩ (.int .i64 r3)).setCell ⟨w.heap.size, 4, none⟩ (.int .i64 r4)).setCell ⟨w.heap.size, 5, none⟩ (.int .i64 r5)).setCell ⟨w.heap.size, 6, none⟩ (.int .i64 r6)).drew = Wz at hp hu hws has ⊢
      obtain ⟨q0, q1, q2, q3, q4, q5, q6⟩ := cells7 hp
      clear k0 k1 k2 k3 k4 k5 k6 f0 f1 f2 f3 f4 f5 f6 lk
      go_wp2_with fail
      refine bodyPost_ret (by simp [results, Tryz.results15, go_sem, q0, q1, q2, q3, q4, q5, q6]; try rfl) rfl ?_
      exact ⟨by rw [HEd.out]; rfl, hws, hu, has⟩
end Go.Proofs.YtlpgkldialmofaaGreatDoor
