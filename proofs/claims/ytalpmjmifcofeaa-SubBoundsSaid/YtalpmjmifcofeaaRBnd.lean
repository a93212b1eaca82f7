/- The contract of merlonref09.Bound at types of unlike kinds, and at those that have no parts. -/
import Derived.Test.YtalpmjmifcofeaaBoundL
import Derived.Test.YtalpmjmifcofeaaRefSame
import Derived.Deep.Cut
namespace Go.Proofs.Ytalpmjmifcofeaa
open Go.RowKit
set_option linter.unusedSimpArgs false
set_option linter.unusedVariables false
/-- what merlonref09.Bound's contract says at one pair of types -/
def RBoundAt (a b : Ty) (up : Bool) (r : Option Ty) : Prop := ∀ (cs cs' : Array Value) (B : Nat) (w : World), TyC w B a cs → TyC w B b cs' → B ≤ w.heap.size →
    Calls Try.prog 21 #[.agg cs, .agg cs', .bool up] w fun e w' => (∃ t cs'', e = .returned (.tuple #[.agg cs'', .bool r.isSome]) ∧ (∀ x, r = some x → t = x) ∧ TyM w' (fun b => b < B ∨ Fresh w w' b) t cs'') ∧ Below w.heap.size w w'
set_option maxRecDepth 100000 in
set_option maxHeartbeats 4000000 in
theorem rbound_diff (a b : Ty) (up : Bool) (hk : ¬ a.kind = b.kind) : RBoundAt a b up none := by
  intro cs cs' B w ha hb hB
  obtain ⟨na, nc, sa, sc, f, rfl, -⟩ := ha.inv
  obtain ⟨na', nc', sa', sc', f', rfl, -⟩ := hb.inv
  have hne : (a.kind != b.kind) = true := by simp [hk]
  clear ha hb hk
  go_enter Try.func21, Try.ntmps21
  simp only [tyCells]
  go_wp2
  refine bodyPost_ret (by simp [results, Try.results21, go_sem]; try rfl) rfl ?_
  exact ⟨⟨zeroTy, _, rfl, fun x h => (Option.some_ne_none _ h.symm).elim, (zero_tyc _ B).toM.mono fun b hb => Or.inl hb⟩, (((Below.refl _ _).alloc (Nat.le_refl _) _).alloc (by simp) _).alloc (by simp; omega) _⟩
set_option maxRecDepth 100000 in
set_option maxHeartbeats 4000000 in
theorem rbound_leaf (a b : Ty) (up : Bool) (ma : mayT a = true) (mb : mayT b = true) (hk : a.kind = b.kind) (h4 : ¬ a.kind = 4) (h5 : ¬ a.kind = 5) (h6 : ¬ a.kind = 6) (h7 : ¬ a.kind = 7) : RBoundAt a b up (leafR a b) := by
  intro cs cs' B w ha hb hB
  obtain ⟨na, nc, sa, sc, f, rfl, -⟩ := ha.inv
  obtain ⟨na', nc', sa', sc', f', rfl, -⟩ := hb.inv
  have HA := Lib.hid ha
  have HB := Lib.hid hb
  have HK := Lib.hid hk
  have hle : alikeT a b = (leafR a b).isSome := by rw [leafR_some, ma, mb]; rfl
  have HLE := Lib.hid hle
  generalize hR : leafR a b = R
  have HR := Lib.hid hR
  have e4 : (a.kind == 4) = false := by simp [h4]
  have e5 : (a.kind == 5) = false := by simp [h5]
  have e6 : (a.kind == 6) = false := by simp [h6]
  have e7 : (a.kind == 7) = false := by simp [h7]
  clear ha hb h4 h5 h6 h7 hle hR
  go_enter Try.func21, Try.ntmps21
  simp only [tyCells]
  rw [← hk]
  clear hk
  go_wp2_with fail
  have hb4 := boxes4 w #[.int .i64 a.kind, .string a.pkg, .int .i64 a.major, .string a.mod, .string a.name, .slice na a.names.length nc, .slice sa a.subs.length sc] #[.int .i64 a.kind, .string b.pkg, .int .i64 b.major, .string b.mod, .string b.name, .slice na' b.names.length nc', .slice sa' b.subs.length sc'] #[.int .i64 0, .string { data := #[] }, .int .i64 0, .string { data := #[] }, .string { data := #[] }, .slice none 0 0, .slice none 0 0] #[.int .i64 a.kind, .string { data := #[] }, .int .i64 0, .string { data := #[] }, .string { data := #[] }, .slice none 0 0, .slice none 0 0] 25
  generalize ((((w.alloc (.cells #[.int .i64 a.kind, .string a.pkg, .int .i64 a.major, .string a.mod, .string a.name, .slice na a.names.length nc, .slice sa a.subs.length sc] 25)).alloc (.cells #[.int .i64 a.kind, .string b.pkg, .int .i64 b.major, .string b.mod, .string b.name, .slice na' b.names.length nc', .slice sa' b.subs.length sc'] 25)).alloc (.cells #[.int .i64 0, .string { data := #[] }, .int .i64 0, .string { data := #[] }, .string { data := #[] }, .slice none 0 0, .slice none 0 0] 25)).alloc (.cells #[.int .i64 a.kind, .string { data := #[] }, .int .i64 0, .string { data := #[] }, .string { data := #[] }, .slice none 0 0, .slice none 0 0] 25)) = W at hb4 ⊢
  obtain ⟨x0, x1, x2, x3, xs, xb⟩ := hb4
  have X0 := Lib.hid x0
  have X1 := Lib.hid x1
  have X2 := Lib.hid x2
  have XB := Lib.hid xb
  have hsz := xb.size
  have hA := HA.out.under (xb.mono hB)
  have hB' := HB.out.under (xb.mono hB)
  simp only [tyCells] at hA hB'
  rw [← HK.out] at hB'
  clear x0 x1 x2 x3 xb
  refine (rSame_c a b _ _ B W hA hB' (by omega)).mono ?_
  rintro e w1 ⟨rfl, hb1⟩
  rw [HLE.out, HR.out]
  have ya := X0.out.under hb1 X0.out.lt
  have zb := X2.out.under hb1 X2.out.lt
  have a0 := ya.cell 0
  have z0 := zb.cell 0
  have f0 := zb.free 0
  have a1 := ya.cell 1
  have z1 := zb.cell 1
  have f1 := zb.free 1
  have a2 := ya.cell 2
  have z2 := zb.cell 2
  have f2 := zb.free 2
  have a3 := ya.cell 3
  have z3 := zb.cell 3
  have f3 := zb.free 3
  have a4 := ya.cell 4
  have z4 := zb.cell 4
  have f4 := zb.free 4
  have a5 := ya.cell 5
  have z5 := zb.cell 5
  have f5 := zb.free 5
  have a6 := ya.cell 6
  have z6 := zb.cell 6
  have f6 := zb.free 6
  simp at a0 a1 a2 a3 a4 a5 a6 z0 z1 z2 z3 z4 z5 z6
  have ZB := Lib.hid zb
  have HB1 := Lib.hid hb1
  clear ya zb hb1 hA hB'
  go_wp2_with fail
  have hfin := put7_bel (.int .i64 a.kind) (.string a.pkg) (.int .i64 a.major) (.string a.mod) (.string a.name) (.slice na a.names.length nc) (.slice sa a.subs.length sc) (acc0 XB.out XB.out.size HB1.out) (show w.heap.size ≤ w.heap.size + 1 + 1 by omega)
  have hblk := put7_full (.int .i64 a.kind) (.string a.pkg) (.int .i64 a.major) (.string a.mod) (.string a.name) (.slice na a.names.length nc) (.slice sa a.subs.length sc) ZB.out
  generalize (((((((w1.setCell ⟨w.heap.size + 1 + 1, 0, none⟩ (.int .i64 a.kind)).setCell ⟨w.heap.size + 1 + 1, 1, none⟩ (.string a.pkg)).setCell ⟨w.heap.size + 1 + 1, 2, none⟩ (.int .i64 a.major)).setCell ⟨w.heap.size + 1 + 1, 3, none⟩ (.string a.mod)).setCell ⟨w.heap.size + 1 + 1, 4, none⟩ (.string a.name)).setCell ⟨w.heap.size + 1 + 1, 5, none⟩ (.slice na a.names.length nc)).setCell ⟨w.heap.size + 1 + 1, 6, none⟩ (.slice sa a.subs.length sc)) = Wz at hfin hblk ⊢
  have q0 := hblk.cell 0
  have q1 := hblk.cell 1
  have q2 := hblk.cell 2
  have q3 := hblk.cell 3
  have q4 := hblk.cell 4
  have q5 := hblk.cell 5
  have q6 := hblk.cell 6
  simp at q0 q1 q2 q3 q4 q5 q6
  refine bodyPost_ret (by simp [results, Try.results21, go_sem, q0, q1, q2, q3, q4, q5, q6]; try rfl) rfl ?_
  exact ⟨⟨a, tyCells a na nc sa sc, rfl, fun x hx => leafR_eq (HR.out.trans hx), (HA.out.under (hfin.mono hB)).toM.mono fun b hb => .inl hb⟩, hfin⟩
end Go.Proofs.Ytalpmjmifcofeaa
