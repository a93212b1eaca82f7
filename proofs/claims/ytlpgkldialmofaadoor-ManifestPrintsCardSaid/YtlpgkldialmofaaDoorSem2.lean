/- The contract of semver.Next. -/
import Derived.Test.YtlpgkldialmofaaDoorSem
namespace Go.Proofs.YtlpgkldialmofaaDoor
open Go.RowKit
set_option linter.unusedSimpArgs false
set_option linter.unusedVariables false
def stepV (a b c s : Int) : Int × Int × Int := if s = 1 then (a, b, c + 1) else if s = 2 then (a, b + 1, 0) else (a + 1, 0, 0)
def nextE (a b c s : Int) : Int := if mayB a b c = false ∨ s < 1 ∨ 3 < s then 1 else if mayB (stepV a b c s).1 (stepV a b c s).2.1 (stepV a b c s).2.2 = true then 0 else 3
def nextV (a b c s : Int) : Int × Int × Int := if nextE a b c s = 0 then stepV a b c s else (0, 0, 0)
def errV (k : Int) : Value := if k = 0 then .nilIface else .iface 31 (.int .i64 k)
theorem may_bounds {a b c : Int} (h : mayB a b c = true) : (1 ≤ a ∧ a ≤ 999999999) ∧ (0 ≤ b ∧ b ≤ 999999999) ∧ (0 ≤ c ∧ c ≤ 999999999) := by
  simp [mayB, partB] at h
  omega
theorem put3_full {w : World} {g : Nat} {T : TypeId} {a0 a1 a2 : Value} (v0 v1 v2 : Value) (h : Blk w g #[a0, a1, a2] T) : Blk (((w.setCell ⟨g, 0, none⟩ v0).setCell ⟨g, 1, none⟩ v1).setCell ⟨g, 2, none⟩ v2) g #[v0, v1, v2] T := by
  have := ((h.set 0 v0).set 1 v1).set 2 v2
  simpa using this
theorem put3_bel {w w1 : World} {B g : Nat} (v0 v1 v2 : Value) (h : Below B w w1) (hg : B ≤ g) : Below B w (((w1.setCell ⟨g, 0, none⟩ v0).setCell ⟨g, 1, none⟩ v1).setCell ⟨g, 2, none⟩ v2) :=
  ((h.setCell (p := ⟨g, 0, none⟩) hg v0).setCell (p := ⟨g, 1, none⟩) hg v1).setCell (p := ⟨g, 2, none⟩) hg v2
set_option maxRecDepth 100000 in
set_option maxHeartbeats 8000000 in
theorem next_c (a b c s : Int) (w : World) : Calls Tryd.prog 14 #[.agg (ver a b c), .int .i64 s] w fun e w' => e = .returned (.tuple #[.agg (ver (nextV a b c s).1 (nextV a b c s).2.1 (nextV a b c s).2.2), errV (nextE a b c s)]) ∧ Below w.heap.size w w' := by
  obtain ⟨E, hE⟩ : ∃ E, nextE a b c s = E := ⟨_, rfl⟩
  obtain ⟨V, hV⟩ : ∃ V, nextV a b c s = V := ⟨_, rfl⟩
  have HE := Lib.hid hE
  have HV := Lib.hid hV
  rw [hE, hV]
  clear hE hV
  go_enter Tryd.func14, Tryd.ntmps14
  simp only [ver]
  go_wp2_with fail
  have h2 := two3 w #[.int .i64 a, .int .i64 b, .int .i64 c] #[.int .i64 0, .int .i64 0, .int .i64 0] 23 23
  generalize ((w.alloc (.cells #[.int .i64 a, .int .i64 b, .int .i64 c] 23)).alloc (.cells #[.int .i64 0, .int .i64 0, .int .i64 0] 23)) = W at h2 ⊢
  obtain ⟨x0, x1, xs, xb⟩ := h2
  refine (semMay_c a b c W).mono ?_
  rintro e w1 ⟨rfl, hb1⟩
  have y0 := x0.under hb1 x0.lt
  have y1 := x1.under hb1 x1.lt
  have hb : Below w.heap.size w w1 := acc0 xb xb.size hb1
  have Y0 := Lib.hid y0
  have Y1 := Lib.hid y1
  have HB := Lib.hid hb
  obtain ⟨p0, p1, p2⟩ := cells3 y0
  obtain ⟨q0, q1, q2⟩ := cells3 y1
  have pf0 := y0.free 0
  have pf1 := y0.free 1
  have pf2 := y0.free 2
  have qf0 := y1.free 0
  have qf1 := y1.free 1
  have qf2 := y1.free 2
  have hlt := y1.lt
  clear x0 x1 xb hb1 y0 y1 hb
  obtain ⟨m, hm⟩ : ∃ m, mayB a b c = m := ⟨_, rfl⟩
  have HM := Lib.hid hm
  rw [hm]
  clear hm
  cases m
  · skip
    have he : E = 1 := by rw [← HE.out, nextE, HM.out]; simp
    have hv : V = (0, 0, 0) := by rw [← HV.out, nextV, HE.out, he]; rfl
    subst he hv
    go_wp2_with fail
    have hz := put3_full (.int .i64 0) (.int .i64 0) (.int .i64 0) Y1.out
    have hbz := put3_bel (.int .i64 0) (.int .i64 0) (.int .i64 0) HB.out (show w.heap.size ≤ w.heap.size + 1 by omega)
    generalize (((w1.setCell ⟨w.heap.size + 1, 0, none⟩ (.int .i64 0)).setCell ⟨w.heap.size + 1, 1, none⟩ (.int .i64 0)).setCell ⟨w.heap.size + 1, 2, none⟩ (.int .i64 0)) = Wz at hz hbz ⊢
    obtain ⟨r0, r1, r2⟩ := cells3 hz
    refine bodyPost_ret (by simp [results, Tryd.results14, go_sem, r0, r1, r2]; try rfl) rfl ?_
    exact ⟨rfl, hbz⟩
  by_cases h1 : s < 1
  · skip
    have he : E = 1 := by rw [← HE.out, nextE, HM.out, if_pos (by simp [h1])]
    have hv : V = (0, 0, 0) := by rw [← HV.out, nextV, HE.out, he]; rfl
    subst he hv
    go_wp2_with fail
    have hz := put3_full (.int .i64 0) (.int .i64 0) (.int .i64 0) Y1.out
    have hbz := put3_bel (.int .i64 0) (.int .i64 0) (.int .i64 0) HB.out (show w.heap.size ≤ w.heap.size + 1 by omega)
    generalize (((w1.setCell ⟨w.heap.size + 1, 0, none⟩ (.int .i64 0)).setCell ⟨w.heap.size + 1, 1, none⟩ (.int .i64 0)).setCell ⟨w.heap.size + 1, 2, none⟩ (.int .i64 0)) = Wz at hz hbz ⊢
    obtain ⟨r0, r1, r2⟩ := cells3 hz
    refine bodyPost_ret (by simp [results, Tryd.results14, go_sem, r0, r1, r2]; try rfl) rfl ?_
    exact ⟨rfl, hbz⟩
  by_cases h3 : 3 < s
  · skip
    have he : E = 1 := by rw [← HE.out, nextE, HM.out, if_pos (by simp [h3])]
    have hv : V = (0, 0, 0) := by rw [← HV.out, nextV, HE.out, he]; rfl
    subst he hv
    go_wp2_with fail
    have hz := put3_full (.int .i64 0) (.int .i64 0) (.int .i64 0) Y1.out
    have hbz := put3_bel (.int .i64 0) (.int .i64 0) (.int .i64 0) HB.out (show w.heap.size ≤ w.heap.size + 1 by omega)
    generalize (((w1.setCell ⟨w.heap.size + 1, 0, none⟩ (.int .i64 0)).setCell ⟨w.heap.size + 1, 1, none⟩ (.int .i64 0)).setCell ⟨w.heap.size + 1, 2, none⟩ (.int .i64 0)) = Wz at hz hbz ⊢
    obtain ⟨r0, r1, r2⟩ := cells3 hz
    refine bodyPost_ret (by simp [results, Tryd.results14, go_sem, r0, r1, r2]; try rfl) rfl ?_
    exact ⟨rfl, hbz⟩
  have ha := may_bounds HM.out
  rcases (show s = 1 ∨ s = 2 ∨ s = 3 by omega) with hs | hs | hs
  · skip
    have hk : nextE a b c s = if mayB (a) (b) (c + 1) = true then 0 else 3 := by rw [nextE, HM.out, if_neg (by simp; omega)]; simp [stepV, hs]
    have hw : stepV a b c s = (a, b, c + 1) := by simp [stepV, hs]
    subst hs
    go_wp2_with fail
    have hx := (Y0.out.set 2 (.int .i64 (c + 1)))
    have hy := (Y1.out.far ⟨w.heap.size, 2, none⟩ (.int .i64 (c + 1)) (by simp))
    have hbx := (HB.out.setCell (p := ⟨w.heap.size, 2, none⟩) (Nat.le_refl _) (.int .i64 (c + 1)))
    simp at hx
    generalize (w1.setCell ⟨w.heap.size, 2, none⟩ (.int .i64 (c + 1))) = W2 at hx hy hbx ⊢
    refine (semMay_c (a) (b) (c + 1) W2).mono ?_
    rintro e w3 ⟨rfl, hb3⟩
    have hb := Lib.hid (acc0 hbx hbx.size hb3)
    have z0 := hx.under hb3 hx.lt
    have z1 := hy.under hb3 hy.lt
    have Z1 := Lib.hid z1
    obtain ⟨u0, u1, u2⟩ := cells3 z0
    obtain ⟨t0, t1, t2⟩ := cells3 z1
    have tf0 := z1.free 0
    have tf1 := z1.free 1
    have tf2 := z1.free 2
    have hl3 := z1.lt
    clear hx hy hbx hb3 z0 z1 p0 p1 p2 q0 q1 q2 pf0 pf1 pf2 qf0 qf1 qf2 hlt
    cases hmm : mayB (a) (b) (c + 1)
    · skip
      have he : E = 3 := by rw [← HE.out, hk, hmm]; rfl
      have hv : V = (0, 0, 0) := by rw [← HV.out, nextV, HE.out, he]; rfl
      subst he hv
      go_wp2_with fail
      have hz := put3_full (.int .i64 (0)) (.int .i64 (0)) (.int .i64 (0)) Z1.out
      have hbz := put3_bel (.int .i64 (0)) (.int .i64 (0)) (.int .i64 (0)) hb.out (show w.heap.size ≤ w.heap.size + 1 by omega)
      generalize (((w3.setCell ⟨w.heap.size + 1, 0, none⟩ (.int .i64 (0))).setCell ⟨w.heap.size + 1, 1, none⟩ (.int .i64 (0))).setCell ⟨w.heap.size + 1, 2, none⟩ (.int .i64 (0))) = Wz at hz hbz ⊢
      obtain ⟨r0, r1, r2⟩ := cells3 hz
      refine bodyPost_ret (by simp [results, Tryd.results14, go_sem, r0, r1, r2]; try rfl) rfl ?_
      exact ⟨rfl, hbz⟩
    · skip
      have he : E = 0 := by rw [← HE.out, hk, hmm]; rfl
      have hv : V = (a, b, c + 1) := by rw [← HV.out, nextV, HE.out, he, hw]; rfl
      subst he hv
      go_wp2_with fail
      have hz := put3_full (.int .i64 (a)) (.int .i64 (b)) (.int .i64 (c + 1)) Z1.out
      have hbz := put3_bel (.int .i64 (a)) (.int .i64 (b)) (.int .i64 (c + 1)) hb.out (show w.heap.size ≤ w.heap.size + 1 by omega)
      generalize (((w3.setCell ⟨w.heap.size + 1, 0, none⟩ (.int .i64 (a))).setCell ⟨w.heap.size + 1, 1, none⟩ (.int .i64 (b))).setCell ⟨w.heap.size + 1, 2, none⟩ (.int .i64 (c + 1))) = Wz at hz hbz ⊢
      obtain ⟨r0, r1, r2⟩ := cells3 hz
      refine bodyPost_ret (by simp [results, Tryd.results14, go_sem, r0, r1, r2]; try rfl) rfl ?_
      exact ⟨rfl, hbz⟩
  · skip
    have hk : nextE a b c s = if mayB (a) (b + 1) (0) = true then 0 else 3 := by rw [nextE, HM.out, if_neg (by simp; omega)]; simp [stepV, hs]
    have hw : stepV a b c s = (a, b + 1, 0) := by simp [stepV, hs]
    subst hs
    go_wp2_with fail
    have hx := ((Y0.out.set 1 (.int .i64 (b + 1))).set 2 (.int .i64 0))
    have hy := ((Y1.out.far ⟨w.heap.size, 1, none⟩ (.int .i64 (b + 1)) (by simp)).far ⟨w.heap.size, 2, none⟩ (.int .i64 0) (by simp))
    have hbx := ((HB.out.setCell (p := ⟨w.heap.size, 1, none⟩) (Nat.le_refl _) (.int .i64 (b + 1))).setCell (p := ⟨w.heap.size, 2, none⟩) (Nat.le_refl _) (.int .i64 0))
    simp at hx
    generalize ((w1.setCell ⟨w.heap.size, 1, none⟩ (.int .i64 (b + 1))).setCell ⟨w.heap.size, 2, none⟩ (.int .i64 0)) = W2 at hx hy hbx ⊢
    refine (semMay_c (a) (b + 1) (0) W2).mono ?_
    rintro e w3 ⟨rfl, hb3⟩
    have hb := Lib.hid (acc0 hbx hbx.size hb3)
    have z0 := hx.under hb3 hx.lt
    have z1 := hy.under hb3 hy.lt
    have Z1 := Lib.hid z1
    obtain ⟨u0, u1, u2⟩ := cells3 z0
    obtain ⟨t0, t1, t2⟩ := cells3 z1
    have tf0 := z1.free 0
    have tf1 := z1.free 1
    have tf2 := z1.free 2
    have hl3 := z1.lt
    clear hx hy hbx hb3 z0 z1 p0 p1 p2 q0 q1 q2 pf0 pf1 pf2 qf0 qf1 qf2 hlt
    cases hmm : mayB (a) (b + 1) (0)
    · skip
      have he : E = 3 := by rw [← HE.out, hk, hmm]; rfl
      have hv : V = (0, 0, 0) := by rw [← HV.out, nextV, HE.out, he]; rfl
      subst he hv
      go_wp2_with fail
      have hz := put3_full (.int .i64 (0)) (.int .i64 (0)) (.int .i64 (0)) Z1.out
      have hbz := put3_bel (.int .i64 (0)) (.int .i64 (0)) (.int .i64 (0)) hb.out (show w.heap.size ≤ w.heap.size + 1 by omega)
      generalize (((w3.setCell ⟨w.heap.size + 1, 0, none⟩ (.int .i64 (0))).setCell ⟨w.heap.size + 1, 1, none⟩ (.int .i64 (0))).setCell ⟨w.heap.size + 1, 2, none⟩ (.int .i64 (0))) = Wz at hz hbz ⊢
      obtain ⟨r0, r1, r2⟩ := cells3 hz
      refine bodyPost_ret (by simp [results, Tryd.results14, go_sem, r0, r1, r2]; try rfl) rfl ?_
      exact ⟨rfl, hbz⟩
    · skip
      have he : E = 0 := by rw [← HE.out, hk, hmm]; rfl
      have hv : V = (a, b + 1, 0) := by rw [← HV.out, nextV, HE.out, he, hw]; rfl
      subst he hv
      go_wp2_with fail
      have hz := put3_full (.int .i64 (a)) (.int .i64 (b + 1)) (.int .i64 (0)) Z1.out
      have hbz := put3_bel (.int .i64 (a)) (.int .i64 (b + 1)) (.int .i64 (0)) hb.out (show w.heap.size ≤ w.heap.size + 1 by omega)
      generalize (((w3.setCell ⟨w.heap.size + 1, 0, none⟩ (.int .i64 (a))).setCell ⟨w.heap.size + 1, 1, none⟩ (.int .i64 (b + 1))).setCell ⟨w.heap.size + 1, 2, none⟩ (.int .i64 (0))) = Wz at hz hbz ⊢
      obtain ⟨r0, r1, r2⟩ := cells3 hz
      refine bodyPost_ret (by simp [results, Tryd.results14, go_sem, r0, r1, r2]; try rfl) rfl ?_
      exact ⟨rfl, hbz⟩
  · skip
    have hk : nextE a b c s = if mayB (a + 1) (0) (0) = true then 0 else 3 := by rw [nextE, HM.out, if_neg (by simp; omega)]; simp [stepV, hs]
    have hw : stepV a b c s = (a + 1, 0, 0) := by simp [stepV, hs]
    subst hs
    go_wp2_with fail
    have hx := (((Y0.out.set 0 (.int .i64 (a + 1))).set 1 (.int .i64 0)).set 2 (.int .i64 0))
    have hy := (((Y1.out.far ⟨w.heap.size, 0, none⟩ (.int .i64 (a + 1)) (by simp)).far ⟨w.heap.size, 1, none⟩ (.int .i64 0) (by simp)).far ⟨w.heap.size, 2, none⟩ (.int .i64 0) (by simp))
    have hbx := (((HB.out.setCell (p := ⟨w.heap.size, 0, none⟩) (Nat.le_refl _) (.int .i64 (a + 1))).setCell (p := ⟨w.heap.size, 1, none⟩) (Nat.le_refl _) (.int .i64 0)).setCell (p := ⟨w.heap.size, 2, none⟩) (Nat.le_refl _) (.int .i64 0))
    simp at hx
    generalize (((w1.setCell ⟨w.heap.size, 0, none⟩ (.int .i64 (a + 1))).setCell ⟨w.heap.size, 1, none⟩ (.int .i64 0)).setCell ⟨w.heap.size, 2, none⟩ (.int .i64 0)) = W2 at hx hy hbx ⊢
    refine (semMay_c (a + 1) (0) (0) W2).mono ?_
    rintro e w3 ⟨rfl, hb3⟩
    have hb := Lib.hid (acc0 hbx hbx.size hb3)
    have z0 := hx.under hb3 hx.lt
    have z1 := hy.under hb3 hy.lt
    have Z1 := Lib.hid z1
    obtain ⟨u0, u1, u2⟩ := cells3 z0
    obtain ⟨t0, t1, t2⟩ := cells3 z1
    have tf0 := z1.free 0
    have tf1 := z1.free 1
    have tf2 := z1.free 2
    have hl3 := z1.lt
    clear hx hy hbx hb3 z0 z1 p0 p1 p2 q0 q1 q2 pf0 pf1 pf2 qf0 qf1 qf2 hlt
    cases hmm : mayB (a + 1) (0) (0)
    · skip
      have he : E = 3 := by rw [← HE.out, hk, hmm]; rfl
      have hv : V = (0, 0, 0) := by rw [← HV.out, nextV, HE.out, he]; rfl
      subst he hv
      go_wp2_with fail
      have hz := put3_full (.int .i64 (0)) (.int .i64 (0)) (.int .i64 (0)) Z1.out
      have hbz := put3_bel (.int .i64 (0)) (.int .i64 (0)) (.int .i64 (0)) hb.out (show w.heap.size ≤ w.heap.size + 1 by omega)
      generalize (((w3.setCell ⟨w.heap.size + 1, 0, none⟩ (.int .i64 (0))).setCell ⟨w.heap.size + 1, 1, none⟩ (.int .i64 (0))).setCell ⟨w.heap.size + 1, 2, none⟩ (.int .i64 (0))) = Wz at hz hbz ⊢
      obtain ⟨r0, r1, r2⟩ := cells3 hz
      refine bodyPost_ret (by simp [results, Tryd.results14, go_sem, r0, r1, r2]; try rfl) rfl ?_
      exact ⟨rfl, hbz⟩
    · skip
      have he : E = 0 := by rw [← HE.out, hk, hmm]; rfl
      have hv : V = (a + 1, 0, 0) := by rw [← HV.out, nextV, HE.out, he, hw]; rfl
      subst he hv
      go_wp2_with fail
      have hz := put3_full (.int .i64 (a + 1)) (.int .i64 (0)) (.int .i64 (0)) Z1.out
      have hbz := put3_bel (.int .i64 (a + 1)) (.int .i64 (0)) (.int .i64 (0)) hb.out (show w.heap.size ≤ w.heap.size + 1 by omega)
      generalize (((w3.setCell ⟨w.heap.size + 1, 0, none⟩ (.int .i64 (a + 1))).setCell ⟨w.heap.size + 1, 1, none⟩ (.int .i64 (0))).setCell ⟨w.heap.size + 1, 2, none⟩ (.int .i64 (0))) = Wz at hz hbz ⊢
      obtain ⟨r0, r1, r2⟩ := cells3 hz
      refine bodyPost_ret (by simp [results, Tryd.results14, go_sem, r0, r1, r2]; try rfl) rfl ?_
      exact ⟨rfl, hbz⟩
end Go.Proofs.YtlpgkldialmofaaDoor
