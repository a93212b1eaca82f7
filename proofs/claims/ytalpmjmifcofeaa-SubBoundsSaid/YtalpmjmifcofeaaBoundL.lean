/- The contract of sub.bound at types that have no parts, and at records (up), by what it does at the parts. -/
import Derived.Test.YtalpmjmifcofeaaBothA
import Derived.Deep.RegionLaw
namespace Go.Proofs.Ytalpmjmifcofeaa
open Go.RowKit
set_option linter.unusedSimpArgs false
set_option linter.unusedVariables false
theorem boxes3 (w : World) (c0 c1 c2 : Array Value) (T : TypeId) : Blk (((w.alloc (.cells c0 T)).alloc (.cells c1 T)).alloc (.cells c2 T)) w.heap.size c0 T ∧ Blk (((w.alloc (.cells c0 T)).alloc (.cells c1 T)).alloc (.cells c2 T)) (w.heap.size + 1) c1 T ∧
    Blk (((w.alloc (.cells c0 T)).alloc (.cells c1 T)).alloc (.cells c2 T)) (w.heap.size + 1 + 1) c2 T ∧
    (((w.alloc (.cells c0 T)).alloc (.cells c1 T)).alloc (.cells c2 T)).heap.size = w.heap.size + 3 ∧ Below w.heap.size w (((w.alloc (.cells c0 T)).alloc (.cells c1 T)).alloc (.cells c2 T)) := by
  have e1 : (w.alloc (.cells c0 T)).heap.size = w.heap.size + 1 := by simp
  have e2 : ((w.alloc (.cells c0 T)).alloc (.cells c1 T)).heap.size = w.heap.size + 1 + 1 := by simp
  have b1 := Blk.new (w.alloc (.cells c0 T)) c1 T
  have b2 := Blk.new ((w.alloc (.cells c0 T)).alloc (.cells c1 T)) c2 T
  rw [e1] at b1
  rw [e2] at b2
  exact ⟨((Blk.new w c0 T).alloc _).alloc _, b1.alloc _, b2, by simp, (((Below.refl _ _).alloc (Nat.le_refl _) _).alloc (by simp) _).alloc (by simp; omega) _⟩
def leafR (a b : Ty) : Option Ty := if mayT a && mayT b && alikeT a b then some a else none
theorem leafR_some (a b : Ty) : (leafR a b).isSome = (mayT a && mayT b && alikeT a b) := by
  unfold leafR
  split <;> simp_all
theorem leafR_eq {a b x : Ty} (h : leafR a b = some x) : a = x := by
  unfold leafR at h
  split at h <;> simp_all
set_option maxRecDepth 100000 in
set_option maxHeartbeats 4000000 in
theorem bound_leaf (a b : Ty) (up : Bool) (hk : a.kind = b.kind) (h4 : ¬ a.kind = 4) (h5 : ¬ a.kind = 5) (h6 : ¬ a.kind = 6) (h7 : ¬ a.kind = 7) : BoundAt a b up (leafR a b) := by
  intro cs cs' B w ha hb hB
  obtain ⟨na, nc, sa, sc, f, rfl, -⟩ := ha.inv
  obtain ⟨na', nc', sa', sc', f', rfl, -⟩ := hb.inv
  have HA := Lib.hid ha
  have HB := Lib.hid hb
  have HK := Lib.hid hk
  have e4 : (a.kind == 4) = false := by simp [h4]
  have e5 : (a.kind == 5) = false := by simp [h5]
  have e6 : (a.kind == 6) = false := by simp [h6]
  have e7 : (a.kind == 7) = false := by simp [h7]
  clear ha hb h4 h5 h6 h7
  go_enter Try.func39, Try.ntmps39
  simp only [tyCells]
  rw [← hk]
  clear hk
  go_wp2_with fail
  have h3 := boxes3 w #[.int .i64 a.kind, .string a.pkg, .int .i64 a.major, .string a.mod, .string a.name, .slice na a.names.length nc, .slice sa a.subs.length sc] #[.int .i64 a.kind, .string b.pkg, .int .i64 b.major, .string b.mod, .string b.name, .slice na' b.names.length nc', .slice sa' b.subs.length sc'] #[.int .i64 0, .string { data := #[] }, .int .i64 0, .string { data := #[] }, .string { data := #[] }, .slice none 0 0, .slice none 0 0] 25
  generalize (((w.alloc (.cells #[.int .i64 a.kind, .string a.pkg, .int .i64 a.major, .string a.mod, .string a.name, .slice na a.names.length nc, .slice sa a.subs.length sc] 25)).alloc (.cells #[.int .i64 a.kind, .string b.pkg, .int .i64 b.major, .string b.mod, .string b.name, .slice na' b.names.length nc', .slice sa' b.subs.length sc'] 25)).alloc (.cells #[.int .i64 0, .string { data := #[] }, .int .i64 0, .string { data := #[] }, .string { data := #[] }, .slice none 0 0, .slice none 0 0] 25)) = W at h3 ⊢
  obtain ⟨x0, x1, x2, xs, xb⟩ := h3
  have X0 := Lib.hid x0
  have X1 := Lib.hid x1
  have X2 := Lib.hid x2
  have XB := Lib.hid xb
  have a0 := x0.cell 0
  have b0 := x1.cell 0
  have a1 := x0.cell 1
  have b1 := x1.cell 1
  have a2 := x0.cell 2
  have b2 := x1.cell 2
  have a3 := x0.cell 3
  have b3 := x1.cell 3
  have a4 := x0.cell 4
  have b4 := x1.cell 4
  have a5 := x0.cell 5
  have b5 := x1.cell 5
  have a6 := x0.cell 6
  have b6 := x1.cell 6
  simp at a0 a1 a2 a3 a4 a5 a6 b0 b1 b2 b3 b4 b5 b6
  clear x0 x1 x2
  have hsz := xb.size
  have hA := HA.out.under (xb.mono hB)
  have hB' := HB.out.under (xb.mono hB)
  simp only [tyCells] at hA hB'
  rw [← HK.out] at hB'
  have HA1 := Lib.hid hA
  have HB1 := Lib.hid hB'
  clear hA hB'
  go_region_law (first
    | (go_simp; go_at_call 57; refine (Same_c a b _ _ B W.drew (HA1.out.keep fun _ _ => rfl) (HB1.out.keep fun _ _ => rfl) (Nat.le_trans hB hsz)).mono ?_; rintro e w1 ⟨rfl, hb1⟩; have zb := X2.out.drew.under hb1 X2.out.lt; have xa := X0.out.drew.under hb1 X0.out.lt; have z0 := zb.cell 0; have f0 := zb.free 0; have z1 := zb.cell 1; have f1 := zb.free 1; have z2 := zb.cell 2; have f2 := zb.free 2; have z3 := zb.cell 3; have f3 := zb.free 3; have z4 := zb.cell 4; have f4 := zb.free 4; have z5 := zb.cell 5; have f5 := zb.free 5; have z6 := zb.cell 6; have f6 := zb.free 6; have ka0 := xa.cell 0; have ka1 := xa.cell 1; have ka2 := xa.cell 2; have ka3 := xa.cell 3; have ka4 := xa.cell 4; have ka5 := xa.cell 5; have ka6 := xa.cell 6; simp at z0 z1 z2 z3 z4 z5 z6 ka0 ka1 ka2 ka3 ka4 ka5 ka6; have HZ := Lib.hid zb; have HB2 := Lib.hid hb1; clear xa zb hb1))
  all_goals
    go_wp2
    have hfin : Below w.heap.size w (((((((((((((w1.setCell ⟨w.heap.size + 1 + 1, 0, none⟩ (.int .i64 a.kind))).setCell ⟨w.heap.size + 1 + 1, 1, none⟩ (.string a.pkg))).setCell ⟨w.heap.size + 1 + 1, 2, none⟩ (.int .i64 a.major))).setCell ⟨w.heap.size + 1 + 1, 3, none⟩ (.string a.mod))).setCell ⟨w.heap.size + 1 + 1, 4, none⟩ (.string a.name))).setCell ⟨w.heap.size + 1 + 1, 5, none⟩ (.slice na a.names.length nc))).setCell ⟨w.heap.size + 1 + 1, 6, none⟩ (.slice sa a.subs.length sc)) := put7_bel (.int .i64 a.kind) (.string a.pkg) (.int .i64 a.major) (.string a.mod) (.string a.name) (.slice na a.names.length nc) (.slice sa a.subs.length sc) (acc0 XB.out.drew XB.out.size HB2.out) (by omega)
    have hblk := put7_full (.int .i64 a.kind) (.string a.pkg) (.int .i64 a.major) (.string a.mod) (.string a.name) (.slice na a.names.length nc) (.slice sa a.subs.length sc) HZ.out
    generalize (((((((((((((w1.setCell ⟨w.heap.size + 1 + 1, 0, none⟩ (.int .i64 a.kind))).setCell ⟨w.heap.size + 1 + 1, 1, none⟩ (.string a.pkg))).setCell ⟨w.heap.size + 1 + 1, 2, none⟩ (.int .i64 a.major))).setCell ⟨w.heap.size + 1 + 1, 3, none⟩ (.string a.mod))).setCell ⟨w.heap.size + 1 + 1, 4, none⟩ (.string a.name))).setCell ⟨w.heap.size + 1 + 1, 5, none⟩ (.slice na a.names.length nc))).setCell ⟨w.heap.size + 1 + 1, 6, none⟩ (.slice sa a.subs.length sc)) = Wz at hfin hblk ⊢
    have w0 := hblk.cell 0
    have w1 := hblk.cell 1
    have w2 := hblk.cell 2
    have w3 := hblk.cell 3
    have w4 := hblk.cell 4
    have w5 := hblk.cell 5
    have w6 := hblk.cell 6
    simp at w0 w1 w2 w3 w4 w5 w6
    refine bodyPost_ret (by simp [results, Try.results39, go_sem, w0, w1, w2, w3, w4, w5, w6]; try rfl) rfl ?_
    exact ⟨⟨a, tyCells a na nc sa sc, by rw [leafR_some]; rfl, fun x hx => leafR_eq hx, (HA.out.under (hfin.mono hB)).toM.mono fun b hb => .inl hb⟩, hfin⟩
set_option maxRecDepth 100000 in
set_option maxHeartbeats 4000000 in
theorem bound_diff (a b : Ty) (up : Bool) (hk : ¬ a.kind = b.kind) : BoundAt a b up none := by
  intro cs cs' B w ha hb hB
  obtain ⟨na, nc, sa, sc, f, rfl, -⟩ := ha.inv
  obtain ⟨na', nc', sa', sc', f', rfl, -⟩ := hb.inv
  have hne : (a.kind != b.kind) = true := by simp [hk]
  clear ha hb hk
  go_enter Try.func39, Try.ntmps39
  simp only [tyCells]
  go_wp2
  refine bodyPost_ret (by simp [results, Try.results39, go_sem]; try rfl) rfl ?_
  exact ⟨⟨zeroTy, _, rfl, fun x h => (Option.some_ne_none _ h.symm).elim, (zero_tyc _ B).toM.mono fun b hb => Or.inl hb⟩, (((Below.refl _ _).alloc (Nat.le_refl _) _).alloc (by simp) _).alloc (by simp; omega) _⟩
theorem ty_put7 {w1 W : World} {B g : Nat} {t : Ty} {cs : Array Value} (v0 v1 v2 v3 v4 v5 v6 : Value) (h : TyM w1 (fun b => b < B ∨ Fresh W w1 b) t cs) (h1 : B ≤ g) (h2 : g < W.heap.size) :
    TyM (((((((w1.setCell ⟨g, 0, none⟩ v0).setCell ⟨g, 1, none⟩ v1).setCell ⟨g, 2, none⟩ v2).setCell ⟨g, 3, none⟩ v3).setCell ⟨g, 4, none⟩ v4).setCell ⟨g, 5, none⟩ v5).setCell ⟨g, 6, none⟩ v6)
      (fun b => b < B ∨ Fresh W (((((((w1.setCell ⟨g, 0, none⟩ v0).setCell ⟨g, 1, none⟩ v1).setCell ⟨g, 2, none⟩ v2).setCell ⟨g, 3, none⟩ v3).setCell ⟨g, 4, none⟩ v4).setCell ⟨g, 5, none⟩ v5).setCell ⟨g, 6, none⟩ v6) b) t cs := by
  rw [← put7_zero]
  refine h.move (fun b hb => ?_) (fun p hp => put7_cell _ _ _ _ _ _ _ ?_)
  · rcases hb with hb | hb
    · exact .inl hb
    · exact .inr ⟨hb.1, by rw [put7_size]; exact hb.2⟩
  · rcases hp with hp | hp
    · omega
    · have := hp.1; omega
theorem ty_box {w Wz W : World} {B : Nat} {o : Obj} {t : Ty} {cs : Array Value} (h : TyM Wz (fun b => b < B ∨ Fresh W Wz b) t cs) (hW : w.heap.size ≤ W.heap.size) (hB : B ≤ Wz.heap.size) : TyM (Wz.alloc o).drew (fun b => b < B ∨ Fresh w (Wz.alloc o).drew b) t cs := by
  refine h.move (fun b hb => ?_) (fun p hp => ?_)
  · rcases hb with hb | hb
    · exact .inl hb
    · refine .inr ⟨Nat.le_trans hW hb.1, ?_⟩
      have := hb.2
      show b < (Wz.alloc o).heap.size
      simp; omega
  · refine World.cell?_alloc_lt Wz _ _ ?_
    rcases hp with hp | hp
    · omega
    · exact hp.2
end Go.Proofs.Ytalpmjmifcofeaa
