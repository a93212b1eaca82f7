/- merlonlaw04.up returns true; the premise: strconv's table is as laid. -/
import Derived.Test.YtalpmjmifcofeaaDoorPrintC
import Derived.Deep.DeepCutAuto
namespace Go.Proofs.YtalpmjmifcofeaaDoor
open Go.RowKit
set_option linter.unusedSimpArgs false
set_option linter.unusedVariables false
def tInt : Ty := .mk 1 { data := #[] } 0 { data := #[] } { data := #[] } [] []
def tBool : Ty := .mk 3 { data := #[] } 0 { data := #[] } { data := #[] } [] []
def tF : Ty := .mk 7 { data := #[] } 0 { data := #[] } { data := #[] } [] [tInt, tBool]
theorem may_f : mayT tF = true := by decide +kernel
theorem plain_f : PlainB tF = true := by decide +kernel
theorem size_f : sizeT tF = 3 := by decide +kernel
theorem tx_f : ba (tx tF) = { data := #[40, 73, 110, 116, 41, 32, 45, 62, 32, 66, 111, 111, 108] } := by decide +kernel
theorem may_zero : mayT zeroTy = false := by decide +kernel
theorem ty_int (w : World) (B : Nat) : TyC w B tInt #[.int .i64 1, .string { data := #[] }, .int .i64 0, .string { data := #[] }, .string { data := #[] }, .slice none 0 0, .slice none 0 0] :=
  .mk tInt none 0 none 0 (fun _ => #[]) ⟨by decide, by decide, by decide, by decide, by decide, by decide, (by intro s h; cases h), by decide⟩ (.inl rfl) (.inl rfl) (Nat.le_refl _) (Nat.le_refl _) (fun i h => absurd h (by show ¬ i < 0; omega))
theorem ty_bool (w : World) (B : Nat) : TyC w B tBool #[.int .i64 3, .string { data := #[] }, .int .i64 0, .string { data := #[] }, .string { data := #[] }, .slice none 0 0, .slice none 0 0] :=
  .mk tBool none 0 none 0 (fun _ => #[]) ⟨by decide, by decide, by decide, by decide, by decide, by decide, (by intro s h; cases h), by decide⟩ (.inl rfl) (.inl rfl) (Nat.le_refl _) (Nat.le_refl _) (fun i h => absurd h (by show ¬ i < 0; omega))
theorem ty_f {w : World} {b B : Nat} (h : Blk w b #[.int .i64 1, .string { data := #[] }, .int .i64 0, .string { data := #[] }, .string { data := #[] }, .slice none 0 0, .slice none 0 0, .int .i64 3, .string { data := #[] }, .int .i64 0, .string { data := #[] }, .string { data := #[] }, .slice none 0 0, .slice none 0 0] 25) (l : b < B) : TyC w B tF #[.int .i64 7, .string { data := #[] }, .int .i64 0, .string { data := #[] }, .string { data := #[] }, .slice none 0 0, .slice (some ⟨b, 0, none⟩) 2 2] := by
  refine .mk tF none 0 (some ⟨b, 0, none⟩) 2 (fun i => if i = 0 then #[.int .i64 1, .string { data := #[] }, .int .i64 0, .string { data := #[] }, .string { data := #[] }, .slice none 0 0, .slice none 0 0] else #[.int .i64 3, .string { data := #[] }, .int .i64 0, .string { data := #[] }, .string { data := #[] }, .slice none 0 0, .slice none 0 0]) ⟨by decide, by decide, by decide, by decide, by decide, by decide, (by intro s h; cases h), by decide⟩ (.inl rfl) (.inr ⟨b, 0, rfl, l, ?_⟩) (by decide) (by decide) ?_
  · intro i hi j hj
    have hi : i < 2 := hi
    rw [h.cell, Nat.zero_add]
    match i, hi with
    | 0, _ =>
      have hj : j < 7 := hj
      match j, hj with
      | 0, _ | 1, _ | 2, _ | 3, _ | 4, _ | 5, _ | 6, _ => rfl
    | 1, _ =>
      have hj : j < 7 := hj
      match j, hj with
      | 0, _ | 1, _ | 2, _ | 3, _ | 4, _ | 5, _ | 6, _ => rfl
  · intro i hi
    have hi : i < 2 := hi
    match i, hi with
    | 0, _ => exact ty_int w B
    | 1, _ => exact ty_bool w B
theorem two_boxes (w : World) (c0 c1 : Array Value) (T0 T1 : TypeId) : Blk ((w.alloc (.cells c0 T0)).alloc (.cells c1 T1)) w.heap.size c0 T0 ∧ Blk ((w.alloc (.cells c0 T0)).alloc (.cells c1 T1)) (w.heap.size + 1) c1 T1 ∧ ((w.alloc (.cells c0 T0)).alloc (.cells c1 T1)).heap.size = w.heap.size + 1 + 1 ∧ Below w.heap.size w ((w.alloc (.cells c0 T0)).alloc (.cells c1 T1)) := by
  have e1 : (w.alloc (.cells c0 T0)).heap.size = w.heap.size + 1 := by simp
  have b1 := Blk.new (w.alloc (.cells c0 T0)) c1 T1
  rw [e1] at b1
  exact ⟨(Blk.new w c0 T0).alloc _, b1, by simp, ((Below.refl _ w).alloc (Nat.le_refl _) _).alloc (by simp) _⟩
theorem cells7 {w : World} {b : Nat} {T : TypeId} {v0 v1 v2 v3 v4 v5 v6 : Value} (h : Blk w b #[v0, v1, v2, v3, v4, v5, v6] T) :
    w.cell? ⟨b, 0, none⟩ = some v0 ∧ w.cell? ⟨b, 1, none⟩ = some v1 ∧ w.cell? ⟨b, 2, none⟩ = some v2 ∧ w.cell? ⟨b, 3, none⟩ = some v3 ∧ w.cell? ⟨b, 4, none⟩ = some v4 ∧ w.cell? ⟨b, 5, none⟩ = some v5 ∧ w.cell? ⟨b, 6, none⟩ = some v6 :=
  ⟨h.cell 0, h.cell 1, h.cell 2, h.cell 3, h.cell 4, h.cell 5, h.cell 6⟩
set_option maxRecDepth 100000 in
set_option maxHeartbeats 4000000 in
theorem up_c (w : World) (htab : TabW w) : Calls Tryd.prog 6 #[] w fun e w' => e = .returned (.bool true) ∧ Below w.heap.size w w' := by
  have HTB := Lib.hid htab
  clear htab
  go_enter Tryd.func6, Tryd.ntmps6
  go_wp2_with fail
  have h2 := two_boxes w #[.int .i64 1, .string { data := #[] }, .int .i64 0, .string { data := #[] }, .string { data := #[] }, .slice none 0 0, .slice none 0 0, .int .i64 3, .string { data := #[] }, .int .i64 0, .string { data := #[] }, .string { data := #[] }, .slice none 0 0, .slice none 0 0] #[.int .i64 7, .string { data := #[] }, .int .i64 0, .string { data := #[] }, .string { data := #[] }, .slice none 0 0, .slice (some ⟨w.heap.size, 0, none⟩) 2 2] 25 25
  generalize ((w.alloc (.cells #[.int .i64 1, .string { data := #[] }, .int .i64 0, .string { data := #[] }, .string { data := #[] }, .slice none 0 0, .slice none 0 0, .int .i64 3, .string { data := #[] }, .int .i64 0, .string { data := #[] }, .string { data := #[] }, .slice none 0 0, .slice none 0 0] 25)).alloc (.cells #[.int .i64 7, .string { data := #[] }, .int .i64 0, .string { data := #[] }, .string { data := #[] }, .slice none 0 0, .slice (some ⟨w.heap.size, 0, none⟩) 2 2] 25)) = W at h2 ⊢
  obtain ⟨x0, x1, xs, xb⟩ := h2
  have hF := ty_f (B := W.heap.size) x0 x0.lt
  have HF := Lib.hid hF
  have HX := Lib.hid x1
  have XB := Lib.hid xb
  clear x0 x1 xb
  refine (print_c tF _ W.heap.size W hF (Nat.le_refl _) (HTB.out.below XB.out)).mono ?_
  rintro e w1 ⟨rfl, hb⟩
  have B1 := Lib.hid hb
  rw [show printE tF = .nilIface from by rw [printE, may_f]; rfl, show printS tF = { data := #[40, 73, 110, 116, 41, 32, 45, 62, 32, 66, 111, 111, 108] } from by rw [printS, may_f, ← tx_f]; rfl]
  clear hb hF
  go_wp2_with fail
  refine (print_c zeroTy _ W.heap.size w1 (zero_tyc _ _) B1.out.size (HTB.out.below (acc0 XB.out XB.out.size B1.out))).mono ?_
  rintro e w2 ⟨rfl, hb⟩
  have B2 := Lib.hid (B1.out.trans (hb.mono B1.out.size))
  clear hb
  rw [show printE zeroTy = .iface 33 (.int .i64 1) from by rw [printE, may_zero]; rfl]
  have y := HX.out.under B2.out HX.out.lt
  obtain ⟨a0, a1, a2, a3, a4, a5, a6⟩ := cells7 y
  have l := y.lt
  clear y
  have he := eq_err w2
  go_wp2_with fail
  refine (Size_c tF _ W.heap.size w2 (HF.out.under B2.out) B2.out.size).mono ?_
  rintro e w3 ⟨rfl, hb⟩
  have B3 := Lib.hid (B2.out.trans (hb.mono B2.out.size))
  clear hb a0 a1 a2 a3 a4 a5 a6 he
  rw [size_f]
  have y := HX.out.under B3.out HX.out.lt
  obtain ⟨a0, a1, a2, a3, a4, a5, a6⟩ := cells7 y
  have l := y.lt
  clear y
  go_wp2_with fail
  refine (Plain_c tF _ W.heap.size w3 (HF.out.under B3.out) B3.out.size).mono ?_
  rintro e w4 ⟨rfl, hb⟩
  have B4 := Lib.hid (B3.out.trans (hb.mono B3.out.size))
  clear hb
  rw [plain_f]
  go_wp2_with fail
  go_ret
  exact ⟨rfl, acc0 XB.out XB.out.size B4.out⟩
end Go.Proofs.YtalpmjmifcofeaaDoor
