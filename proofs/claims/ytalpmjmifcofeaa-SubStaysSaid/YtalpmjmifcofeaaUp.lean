/- merlonlaw09.up returns true. -/
import Derived.Test.YtalpmjmifcofeaaJoin
namespace Go.Proofs.Ytalpmjmifcofeaa
open Go.RowKit
set_option linter.unusedSimpArgs false
set_option linter.unusedVariables false
theorem boxes6 (w : World) (c0 c1 c2 c3 c4 c5 : Array Value) (T0 T1 T2 T3 T4 T5 : TypeId) : Blk ((((((w.alloc (.cells c0 T0)).alloc (.cells c1 T1)).alloc (.cells c2 T2)).alloc (.cells c3 T3)).alloc (.cells c4 T4)).alloc (.cells c5 T5)) (w.heap.size) c0 T0 ∧ Blk ((((((w.alloc (.cells c0 T0)).alloc (.cells c1 T1)).alloc (.cells c2 T2)).alloc (.cells c3 T3)).alloc (.cells c4 T4)).alloc (.cells c5 T5)) (w.heap.size + 1) c1 T1 ∧ Blk ((((((w.alloc (.cells c0 T0)).alloc (.cells c1 T1)).alloc (.cells c2 T2)).alloc (.cells c3 T3)).alloc (.cells c4 T4)).alloc (.cells c5 T5)) (w.heap.size + 1 + 1) c2 T2 ∧ Blk ((((((w.alloc (.cells c0 T0)).alloc (.cells c1 T1)).alloc (.cells c2 T2)).alloc (.cells c3 T3)).alloc (.cells c4 T4)).alloc (.cells c5 T5)) (w.heap.size + 1 + 1 + 1) c3 T3 ∧ Blk ((((((w.alloc (.cells c0 T0)).alloc (.cells c1 T1)).alloc (.cells c2 T2)).alloc (.cells c3 T3)).alloc (.cells c4 T4)).alloc (.cells c5 T5)) (w.heap.size + 1 + 1 + 1 + 1) c4 T4 ∧ Blk ((((((w.alloc (.cells c0 T0)).alloc (.cells c1 T1)).alloc (.cells c2 T2)).alloc (.cells c3 T3)).alloc (.cells c4 T4)).alloc (.cells c5 T5)) (w.heap.size + 1 + 1 + 1 + 1 + 1) c5 T5 ∧ ((((((w.alloc (.cells c0 T0)).alloc (.cells c1 T1)).alloc (.cells c2 T2)).alloc (.cells c3 T3)).alloc (.cells c4 T4)).alloc (.cells c5 T5)).heap.size = w.heap.size + 6 ∧ Below w.heap.size w ((((((w.alloc (.cells c0 T0)).alloc (.cells c1 T1)).alloc (.cells c2 T2)).alloc (.cells c3 T3)).alloc (.cells c4 T4)).alloc (.cells c5 T5)) := by
  have e1 : (w.alloc (.cells c0 T0)).heap.size = w.heap.size + 1 := by simp
  have e2 : ((w.alloc (.cells c0 T0)).alloc (.cells c1 T1)).heap.size = w.heap.size + 1 + 1 := by simp
  have e3 : (((w.alloc (.cells c0 T0)).alloc (.cells c1 T1)).alloc (.cells c2 T2)).heap.size = w.heap.size + 1 + 1 + 1 := by simp
  have e4 : ((((w.alloc (.cells c0 T0)).alloc (.cells c1 T1)).alloc (.cells c2 T2)).alloc (.cells c3 T3)).heap.size = w.heap.size + 1 + 1 + 1 + 1 := by simp
  have e5 : (((((w.alloc (.cells c0 T0)).alloc (.cells c1 T1)).alloc (.cells c2 T2)).alloc (.cells c3 T3)).alloc (.cells c4 T4)).heap.size = w.heap.size + 1 + 1 + 1 + 1 + 1 := by simp
  have b0 := Blk.new w c0 T0
  have b1 := Blk.new (w.alloc (.cells c0 T0)) c1 T1
  rw [e1] at b1
  have b2 := Blk.new ((w.alloc (.cells c0 T0)).alloc (.cells c1 T1)) c2 T2
  rw [e2] at b2
  have b3 := Blk.new (((w.alloc (.cells c0 T0)).alloc (.cells c1 T1)).alloc (.cells c2 T2)) c3 T3
  rw [e3] at b3
  have b4 := Blk.new ((((w.alloc (.cells c0 T0)).alloc (.cells c1 T1)).alloc (.cells c2 T2)).alloc (.cells c3 T3)) c4 T4
  rw [e4] at b4
  have b5 := Blk.new (((((w.alloc (.cells c0 T0)).alloc (.cells c1 T1)).alloc (.cells c2 T2)).alloc (.cells c3 T3)).alloc (.cells c4 T4)) c5 T5
  rw [e5] at b5
  exact ⟨(((((b0.alloc _).alloc _).alloc _).alloc _).alloc _), ((((b1.alloc _).alloc _).alloc _).alloc _), (((b2.alloc _).alloc _).alloc _), ((b3.alloc _).alloc _), (b4.alloc _), b5, by simp, (((((((Below.refl _ w).alloc (by simp; try omega) _).alloc (by simp; try omega) _).alloc (by simp; try omega) _).alloc (by simp; try omega) _).alloc (by simp; try omega) _).alloc (by simp; try omega) _)⟩
theorem ty_int (w : World) (B : Nat) : TyC w B tInt #[.int .i64 1, .string { data := #[] }, .int .i64 0, .string { data := #[] }, .string { data := #[] }, .slice none 0 0, .slice none 0 0] :=
  .mk tInt none 0 none 0 (fun _ => #[]) ⟨by decide, by decide, by decide, by decide, by decide, by decide, (by intro s h; cases h), by decide⟩ (.inl rfl) (.inl rfl) (Nat.le_refl _) (Nat.le_refl _) (fun i h => absurd h (by show ¬ i < 0; omega))
theorem ty_text (w : World) (B : Nat) : TyC w B tText #[.int .i64 2, .string { data := #[] }, .int .i64 0, .string { data := #[] }, .string { data := #[] }, .slice none 0 0, .slice none 0 0] :=
  .mk tText none 0 none 0 (fun _ => #[]) ⟨by decide, by decide, by decide, by decide, by decide, by decide, (by intro s h; cases h), by decide⟩ (.inl rfl) (.inl rfl) (Nat.le_refl _) (Nat.le_refl _) (fun i h => absurd h (by show ¬ i < 0; omega))
theorem ty_a {w : World} {b1 b2 B : Nat} (h1 : Blk w b1 #[.string { data := #[97] }, .string { data := #[98] }] 9) (h2 : Blk w b2 #[.int .i64 1, .string { data := #[] }, .int .i64 0, .string { data := #[] }, .string { data := #[] }, .slice none 0 0, .slice none 0 0, .int .i64 2, .string { data := #[] }, .int .i64 0, .string { data := #[] }, .string { data := #[] }, .slice none 0 0, .slice none 0 0] 25) (l1 : b1 < B) (l2 : b2 < B) :
    TyC w B tA #[.int .i64 5, .string { data := #[] }, .int .i64 0, .string { data := #[] }, .string { data := #[] }, .slice (some ⟨b1, 0, none⟩) 2 2, .slice (some ⟨b2, 0, none⟩) 2 2] := by
  refine .mk tA (some ⟨b1, 0, none⟩) 2 (some ⟨b2, 0, none⟩) 2 (fun i => if i = 0 then #[.int .i64 1, .string { data := #[] }, .int .i64 0, .string { data := #[] }, .string { data := #[] }, .slice none 0 0, .slice none 0 0] else #[.int .i64 2, .string { data := #[] }, .int .i64 0, .string { data := #[] }, .string { data := #[] }, .slice none 0 0, .slice none 0 0]) ⟨by decide, by decide, by decide, by decide, by decide, by decide, ?_, by decide⟩ (.inr ⟨b1, 0, rfl, l1, ?_⟩) (.inr ⟨b2, 0, rfl, l2, ?_⟩) (by decide) (by decide) ?_
  · intro s hs
    have : s = { data := #[97] } ∨ s = { data := #[98] } := by simpa [tA, Ty.names] using hs
    rcases this with rfl | rfl <;> decide
  · intro i hi
    have hi : i < 2 := hi
    rw [h1.cell, Nat.zero_add]
    match i, hi with
    | 0, _ => rfl
    | 1, _ => rfl
  · intro i hi j hj
    have hi : i < 2 := hi
    rw [h2.cell, Nat.zero_add]
    match i, hi with
    | 0, _ =>
      have hj : j < 7 := hj
      match j, hj with
      | 0, _ => rfl
      | 1, _ => rfl
      | 2, _ => rfl
      | 3, _ => rfl
      | 4, _ => rfl
      | 5, _ => rfl
      | 6, _ => rfl
    | 1, _ =>
      have hj : j < 7 := hj
      match j, hj with
      | 0, _ => rfl
      | 1, _ => rfl
      | 2, _ => rfl
      | 3, _ => rfl
      | 4, _ => rfl
      | 5, _ => rfl
      | 6, _ => rfl
  · intro i hi
    have hi : i < 2 := hi
    match i, hi with
    | 0, _ => exact ty_int w B
    | 1, _ => exact ty_text w B
theorem ty_b {w : World} {b1 b2 B : Nat} (h1 : Blk w b1 #[.string { data := #[97] }] 9) (h2 : Blk w b2 #[.int .i64 1, .string { data := #[] }, .int .i64 0, .string { data := #[] }, .string { data := #[] }, .slice none 0 0, .slice none 0 0] 25) (l1 : b1 < B) (l2 : b2 < B) :
    TyC w B tB #[.int .i64 5, .string { data := #[] }, .int .i64 0, .string { data := #[] }, .string { data := #[] }, .slice (some ⟨b1, 0, none⟩) 1 1, .slice (some ⟨b2, 0, none⟩) 1 1] := by
  refine .mk tB (some ⟨b1, 0, none⟩) 1 (some ⟨b2, 0, none⟩) 1 (fun _ => #[.int .i64 1, .string { data := #[] }, .int .i64 0, .string { data := #[] }, .string { data := #[] }, .slice none 0 0, .slice none 0 0]) ⟨by decide, by decide, by decide, by decide, by decide, by decide, ?_, by decide⟩ (.inr ⟨b1, 0, rfl, l1, ?_⟩) (.inr ⟨b2, 0, rfl, l2, ?_⟩) (by decide) (by decide) ?_
  · intro s hs
    have : s = { data := #[97] } := by simpa [tB, Ty.names] using hs
    subst this
    decide
  · intro i hi
    have hi : i < 1 := hi
    rw [h1.cell, Nat.zero_add]
    match i, hi with
    | 0, _ => rfl
  · intro i hi j hj
    have hi : i < 1 := hi
    rw [h2.cell, Nat.zero_add]
    match i, hi with
    | 0, _ =>
      have hj : j < 7 := hj
      match j, hj with
      | 0, _ => rfl
      | 1, _ => rfl
      | 2, _ => rfl
      | 3, _ => rfl
      | 4, _ => rfl
      | 5, _ => rfl
      | 6, _ => rfl
  · intro i hi
    have hi : i < 1 := hi
    match i, hi with
    | 0, _ => exact ty_int w B
set_option maxRecDepth 100000 in
set_option maxHeartbeats 4000000 in
theorem up_c (w : World) : Calls Try.prog 10 #[] w fun e w' => e = .returned (.bool true) ∧ Below w.heap.size w w' := by
  go_enter Try.func10, Try.ntmps10
  go_wp2_with fail
  have h6 := boxes6 w #[.string { data := #[97] }, .string { data := #[98] }] #[.int .i64 1, .string { data := #[] }, .int .i64 0, .string { data := #[] }, .string { data := #[] }, .slice none 0 0, .slice none 0 0, .int .i64 2, .string { data := #[] }, .int .i64 0, .string { data := #[] }, .string { data := #[] }, .slice none 0 0, .slice none 0 0] #[.int .i64 5, .string { data := #[] }, .int .i64 0, .string { data := #[] }, .string { data := #[] }, .slice (some ⟨w.heap.size, 0, none⟩) 2 2, .slice (some ⟨w.heap.size + 1, 0, none⟩) 2 2] #[.string { data := #[97] }] #[.int .i64 1, .string { data := #[] }, .int .i64 0, .string { data := #[] }, .string { data := #[] }, .slice none 0 0, .slice none 0 0] #[.int .i64 5, .string { data := #[] }, .int .i64 0, .string { data := #[] }, .string { data := #[] }, .slice (some ⟨w.heap.size + 1 + 1 + 1, 0, none⟩) 1 1, .slice (some ⟨w.heap.size + 1 + 1 + 1 + 1, 0, none⟩) 1 1] 9 25 25 9 25 25
  generalize ((((((w.alloc (.cells #[.string { data := #[97] }, .string { data := #[98] }] 9)).alloc (.cells #[.int .i64 1, .string { data := #[] }, .int .i64 0, .string { data := #[] }, .string { data := #[] }, .slice none 0 0, .slice none 0 0, .int .i64 2, .string { data := #[] }, .int .i64 0, .string { data := #[] }, .string { data := #[] }, .slice none 0 0, .slice none 0 0] 25)).alloc (.cells #[.int .i64 5, .string { data := #[] }, .int .i64 0, .string { data := #[] }, .string { data := #[] }, .slice (some ⟨w.heap.size, 0, none⟩) 2 2, .slice (some ⟨w.heap.size + 1, 0, none⟩) 2 2] 25)).alloc (.cells #[.string { data := #[97] }] 9)).alloc (.cells #[.int .i64 1, .string { data := #[] }, .int .i64 0, .string { data := #[] }, .string { data := #[] }, .slice none 0 0, .slice none 0 0] 25)).alloc (.cells #[.int .i64 5, .string { data := #[] }, .int .i64 0, .string { data := #[] }, .string { data := #[] }, .slice (some ⟨w.heap.size + 1 + 1 + 1, 0, none⟩) 1 1, .slice (some ⟨w.heap.size + 1 + 1 + 1 + 1, 0, none⟩) 1 1] 25)) = W at h6 ⊢
  obtain ⟨x0, x1, x2, x3, x4, x5, xs, xb⟩ := h6
  have hA := ty_a (B := W.heap.size) x0 x1 x0.lt x1.lt
  have hB := ty_b (B := W.heap.size) x3 x4 x3.lt x4.lt
  have HA := Lib.hid hA
  have HB := Lib.hid hB
  have XB := Lib.hid xb
  refine (join_c _ _ W.heap.size W hA hB (Nat.le_refl _)).mono ?_
  rintro e w1 ⟨⟨cs3, rfl, ht⟩, hb1⟩
  obtain ⟨na3, nc3, sa3, sc3, f3, rfl, -⟩ := ht.inv
  rw [show Value.agg (tyCells tB na3 nc3 sa3 sc3) = Value.agg #[.int .i64 5, .string { data := #[] }, .int .i64 0, .string { data := #[] }, .string { data := #[] }, .slice na3 1 nc3, .slice sa3 1 sc3] from rfl]
  have s1 := hb1.size
  have X2 := Lib.hid (x2.under hb1 x2.lt)
  have X5 := Lib.hid (x5.under hb1 x5.lt)
  have B1 := Lib.hid hb1
  clear x0 x1 x2 x3 x4 x5 xb hA hB ht hb1
  have hb2 : Below W.heap.size W (w1.alloc (.cells #[.int .i64 5, .string { data := #[] }, .int .i64 0, .string { data := #[] }, .string { data := #[] }, .slice na3 1 nc3, .slice sa3 1 sc3] 25)) := B1.out.alloc s1 _
  have p0 := X2.out.cell 0
  have r0 := X5.out.cell 0
  have p1 := X2.out.cell 1
  have r1 := X5.out.cell 1
  have p2 := X2.out.cell 2
  have r2 := X5.out.cell 2
  have p3 := X2.out.cell 3
  have r3 := X5.out.cell 3
  have p4 := X2.out.cell 4
  have r4 := X5.out.cell 4
  have p5 := X2.out.cell 5
  have r5 := X5.out.cell 5
  have p6 := X2.out.cell 6
  have r6 := X5.out.cell 6
  simp at p0 r0 p1 r1 p2 r2 p3 r3 p4 r4 p5 r5 p6 r6
  have l2 : w.heap.size + 1 + 1 < w1.heap.size := by omega
  have l5 : w.heap.size + 1 + 1 + 1 + 1 + 1 < w1.heap.size := by omega
  go_wp2_with fail
  have y2 := X2.out.alloc (.cells #[.int .i64 5, .string { data := #[] }, .int .i64 0, .string { data := #[] }, .string { data := #[] }, .slice na3 1 nc3, .slice sa3 1 sc3] 25)
  have y5 := X5.out.alloc (.cells #[.int .i64 5, .string { data := #[] }, .int .i64 0, .string { data := #[] }, .string { data := #[] }, .slice na3 1 nc3, .slice sa3 1 sc3] 25)
  have y6 := Blk.new w1 #[.int .i64 5, .string { data := #[] }, .int .i64 0, .string { data := #[] }, .string { data := #[] }, .slice na3 1 nc3, .slice sa3 1 sc3] 25
  have hs2 : (w1.alloc (.cells #[.int .i64 5, .string { data := #[] }, .int .i64 0, .string { data := #[] }, .string { data := #[] }, .slice na3 1 nc3, .slice sa3 1 sc3] 25)).heap.size = w1.heap.size + 1 := by simp
  generalize hyb : w1.heap.size = yb at y6 ⊢
  generalize (w1.alloc (.cells #[.int .i64 5, .string { data := #[] }, .int .i64 0, .string { data := #[] }, .string { data := #[] }, .slice na3 1 nc3, .slice sa3 1 sc3] 25)) = W2 at y2 y5 y6 hb2 hs2 ⊢
  have Y2 := Lib.hid y2
  have Y5 := Lib.hid y5
  have Y6 := Lib.hid y6
  have B2 := Lib.hid hb2
  have s2 := hb2.size
  clear y2 y5 y6 hb2 p0 r0 p1 r1 p2 r2 p3 r3 p4 r4 p5 r5 p6 r6
  refine (Sub_c tA tB _ _ W.heap.size W2 (HA.out.under B2.out) (HB.out.under B2.out) s2).mono ?_
  rintro e w3 ⟨rfl, hb3⟩
  rw [sub_ab]
  have y2 := Y2.out.under hb3 Y2.out.lt
  have y5 := Y5.out.under hb3 Y5.out.lt
  have Z6 := Lib.hid (Y6.out.under hb3 Y6.out.lt)
  have Z2 := Lib.hid y2
  have Z5 := Lib.hid y5
  have B3 := Lib.hid (B2.out.trans (hb3.mono s2))
  have s3 := hb3.size
  have p0 := y2.cell 0
  have r0 := y5.cell 0
  have p1 := y2.cell 1
  have r1 := y5.cell 1
  have p2 := y2.cell 2
  have r2 := y5.cell 2
  have p3 := y2.cell 3
  have r3 := y5.cell 3
  have p4 := y2.cell 4
  have r4 := y5.cell 4
  have p5 := y2.cell 5
  have r5 := y5.cell 5
  have p6 := y2.cell 6
  have r6 := y5.cell 6
  simp at p0 r0 p1 r1 p2 r2 p3 r3 p4 r4 p5 r5 p6 r6
  clear y2 y5 hb3
  go_wp2_with fail
  refine (Sub_c tB tA _ _ W.heap.size w3 (HB.out.under B3.out) (HA.out.under B3.out) (by omega)).mono ?_
  rintro e w4 ⟨rfl, hb4⟩
  rw [sub_ba]
  have y6 := Z6.out.under hb4 Z6.out.lt
  have B4 := Lib.hid (B3.out.trans (hb4.mono (by omega)))
  have s4 := hb4.size
  have Z7 := Lib.hid y6
  clear y6 hb4 p0 r0 p1 r1 p2 r2 p3 r3 p4 r4 p5 r5 p6 r6
  go_wp2_with fail
  refine (Sub_c zeroTy zeroTy _ _ 0 w4 (zero_tyc _ _) (zero_tyc _ _) (Nat.zero_le _)).mono ?_
  rintro e w5 ⟨rfl, hb5⟩
  rw [sub_00]
  have y6 := Z7.out.under hb5 Z7.out.lt
  have q5 := y6.cell 5
  simp at q5
  have B5 : Below w.heap.size w w5 := XB.out.trans ((B4.out.mono XB.out.size).trans (hb5.mono (by have := XB.out.size; omega)))
  go_wp2_with fail
  go_ret
  exact ⟨ret_b rfl, B5⟩
end Go.Proofs.Ytalpmjmifcofeaa
