/- The contracts of semver.MayRange, semver.In, and of the document's own. -/
import Derived.Test.YtlpgkldialmofaaDoorPrintV
import Derived.Test.YtlpgkldialmofaaDoorRngL
namespace Go.Proofs.YtlpgkldialmofaaDoor
open Go.RowKit
set_option linter.unusedSimpArgs false
set_option linter.unusedVariables false
def rng (a1 a2 a3 b1 b2 b3 : Int) : Array Value := #[.int .i64 a1, .int .i64 a2, .int .i64 a3, .int .i64 b1, .int .i64 b2, .int .i64 b3]
def rangeB (a1 a2 a3 b1 b2 b3 : Int) : Bool := mayB a1 a2 a3 && (mayB b1 b2 b3 && (decide (a1 = b1) && belowB a1 a2 a3 b1 b2 b3))
def inB (a1 a2 a3 b1 b2 b3 c1 c2 c3 : Int) : Bool := rangeB a1 a2 a3 b1 b2 b3 && (mayB c1 c2 c3 && (!belowB c1 c2 c3 a1 a2 a3 && belowB c1 c2 c3 b1 b2 b3))
theorem cells6 {w : World} {g : Nat} {T : TypeId} {x0 x1 x2 x3 x4 x5 : Value} (h : Blk w g #[x0, x1, x2, x3, x4, x5] T) :
    w.cell? ⟨g, 0, none⟩ = some x0 ∧ w.cell? ⟨g, 1, none⟩ = some x1 ∧ w.cell? ⟨g, 2, none⟩ = some x2 ∧ w.cell? ⟨g, 3, none⟩ = some x3 ∧ w.cell? ⟨g, 4, none⟩ = some x4 ∧ w.cell? ⟨g, 5, none⟩ = some x5 :=
  ⟨h.cell 0, h.cell 1, h.cell 2, h.cell 3, h.cell 4, h.cell 5⟩
theorem one_tri (x y : Int) : (x < y ∧ cmpI x y = -1) ∨ (x = y ∧ cmpI x y = 0) ∨ (y < x ∧ cmpI x y = 1) := by
  by_cases h : x < y
  · exact .inl ⟨h, by rw [cmpI, if_pos h]⟩
  · by_cases h' : y < x
    · exact .inr (.inr ⟨h', by rw [cmpI, if_neg h, if_pos h']⟩)
    · exact .inr (.inl ⟨by omega, by rw [cmpI, if_neg h, if_neg h']⟩)
theorem cmp_below (a1 a2 a3 b1 b2 b3 : Int) : decide (cmpV a1 a2 a3 b1 b2 b3 < 0) = belowB a1 a2 a3 b1 b2 b3 ∧ decide (0 < cmpV a1 a2 a3 b1 b2 b3) = belowB b1 b2 b3 a1 a2 a3 := by
  unfold cmpV
  rcases one_tri a1 b1 with ⟨h1, e1⟩ | ⟨h1, e1⟩ | ⟨h1, e1⟩
  · refine ⟨?_, ?_⟩ <;> (rw [e1]; unfold belowB; (repeat' split) <;> simp [orI] <;> omega)
  · rcases one_tri a2 b2 with ⟨h2, e2⟩ | ⟨h2, e2⟩ | ⟨h2, e2⟩
    · refine ⟨?_, ?_⟩ <;> (rw [e1, e2]; unfold belowB; (repeat' split) <;> simp [orI] <;> omega)
    · rcases one_tri a3 b3 with ⟨h3, e3⟩ | ⟨h3, e3⟩ | ⟨h3, e3⟩ <;> (refine ⟨?_, ?_⟩ <;> (rw [e1, e2, e3]; unfold belowB; (repeat' split) <;> simp [orI] <;> omega))
    · refine ⟨?_, ?_⟩ <;> (rw [e1, e2]; unfold belowB; (repeat' split) <;> simp [orI] <;> omega)
  · refine ⟨?_, ?_⟩ <;> (rw [e1]; unfold belowB; (repeat' split) <;> simp [orI] <;> omega)

set_option maxRecDepth 100000 in
set_option maxHeartbeats 4000000 in
theorem semRange_c (a1 a2 a3 b1 b2 b3 : Int) (w : World) : Calls Tryd.prog 18 #[.agg (rng a1 a2 a3 b1 b2 b3)] w fun e w' => e = .returned (.bool (rangeB a1 a2 a3 b1 b2 b3)) ∧ Below w.heap.size w w' := by
  obtain ⟨v, hv⟩ : ∃ v, rangeB a1 a2 a3 b1 b2 b3 = v := ⟨_, rfl⟩
  obtain ⟨m1, hm1⟩ : ∃ v, mayB a1 a2 a3 = v := ⟨_, rfl⟩
  obtain ⟨m2, hm2⟩ : ∃ v, mayB b1 b2 b3 = v := ⟨_, rfl⟩
  obtain ⟨bl, hbl⟩ : ∃ v, belowB a1 a2 a3 b1 b2 b3 = v := ⟨_, rfl⟩
  obtain ⟨cv, hcv⟩ : ∃ v, cmpV a1 a2 a3 b1 b2 b3 = v := ⟨_, rfl⟩
  have hcb := (cmp_below a1 a2 a3 b1 b2 b3).1
  have hval : v = (m1 && (m2 && (decide (a1 = b1) && bl))) := by rw [← hv, rangeB, hm1, hm2, hbl]
  rw [hcv, hbl] at hcb
  rw [hv]
  have C1 := fun w => semMay_c a1 a2 a3 w
  have C2 := fun w => semMay_c b1 b2 b3 w
  have C3 := fun w => cmp_c a1 a2 a3 b1 b2 b3 w
  simp only [hm1, ver] at C1
  simp only [hm2, ver] at C2
  simp only [hcv, ver] at C3
  have H1 := Lib.hid C1
  have H2 := Lib.hid C2
  have H3 := Lib.hid C3
  have HC := Lib.hid hcb
  clear C1 C2 C3 hv hm1 hm2 hbl hcv hcb
  go_enter Tryd.func18, Tryd.ntmps18
  simp only [rng]
  go_upto_region 1 with fail
  have x0 := Blk.new w #[.int .i64 a1, .int .i64 a2, .int .i64 a3, .int .i64 b1, .int .i64 b2, .int .i64 b3] 40
  have xb := (Below.refl w.heap.size w).alloc (Nat.le_refl _) (.cells #[.int .i64 a1, .int .i64 a2, .int .i64 a3, .int .i64 b1, .int .i64 b2, .int .i64 b3] 40)
  generalize (w.alloc (.cells #[.int .i64 a1, .int .i64 a2, .int .i64 a3, .int .i64 b1, .int .i64 b2, .int .i64 b3] 40)) = W at x0 xb ⊢
  have BX := Lib.hid x0
  have A0 := Lib.hid xb
  obtain ⟨k0, k1, k2, k3, k4, k5⟩ := cells6 x0
  have lk := x0.lt
  clear x0 xb

  by_cases he : a1 = b1
  · have heB : (a1 == b1) = true := by simp [he]
    have hval2 : v = (m1 && (m2 && bl)) := by rw [hval]; simp [he]
    clear hval he
    cases m1
    · go_wp2_with (first
      | (go_at_call 10; have h0 := A1; refine (H2.out _).mono ?_; rintro e w2 ⟨rfl, hb⟩; have A2 := Lib.hid (acc0 A1.out A1.out.size hb); have BX2 := Lib.hid (BX1.out.under hb BX1.out.lt); clear hb k0 k1 k2 k3 k4 k5 lk; obtain ⟨k0, k1, k2, k3, k4, k5⟩ := cells6 BX2.out; have lk := BX2.out.lt)
      | (go_at_call 10; refine (H1.out _).mono ?_; rintro e w1 ⟨rfl, hb⟩; have A1 := Lib.hid (acc0 A0.out A0.out.size hb); have BX1 := Lib.hid (BX.out.under hb BX.out.lt); clear hb k0 k1 k2 k3 k4 k5 lk; obtain ⟨k0, k1, k2, k3, k4, k5⟩ := cells6 BX1.out; have lk := BX1.out.lt)
      | (go_at_call 15; refine (H3.out _).mono ?_; rintro e w3 ⟨rfl, hb⟩; have A3 := Lib.hid (acc0 A2.out A2.out.size hb); have BX3 := Lib.hid (BX2.out.under hb BX2.out.lt); clear hb; clear k0 k1 k2 k3 k4 k5 lk; obtain ⟨k0, k1, k2, k3, k4, k5⟩ := cells6 BX3.out; have lk := BX3.out.lt))
      go_ret
      exact ⟨by rw [hval2]; rfl, A1.out⟩
    cases m2
    · go_wp2_with (first
      | (go_at_call 10; have h0 := A1; refine (H2.out _).mono ?_; rintro e w2 ⟨rfl, hb⟩; have A2 := Lib.hid (acc0 A1.out A1.out.size hb); have BX2 := Lib.hid (BX1.out.under hb BX1.out.lt); clear hb k0 k1 k2 k3 k4 k5 lk; obtain ⟨k0, k1, k2, k3, k4, k5⟩ := cells6 BX2.out; have lk := BX2.out.lt)
      | (go_at_call 10; refine (H1.out _).mono ?_; rintro e w1 ⟨rfl, hb⟩; have A1 := Lib.hid (acc0 A0.out A0.out.size hb); have BX1 := Lib.hid (BX.out.under hb BX.out.lt); clear hb k0 k1 k2 k3 k4 k5 lk; obtain ⟨k0, k1, k2, k3, k4, k5⟩ := cells6 BX1.out; have lk := BX1.out.lt)
      | (go_at_call 15; refine (H3.out _).mono ?_; rintro e w3 ⟨rfl, hb⟩; have A3 := Lib.hid (acc0 A2.out A2.out.size hb); have BX3 := Lib.hid (BX2.out.under hb BX2.out.lt); clear hb; clear k0 k1 k2 k3 k4 k5 lk; obtain ⟨k0, k1, k2, k3, k4, k5⟩ := cells6 BX3.out; have lk := BX3.out.lt))
      go_ret
      exact ⟨by rw [hval2]; rfl, A2.out⟩
    go_wp2_with (first
      | (go_at_call 10; have h0 := A1; refine (H2.out _).mono ?_; rintro e w2 ⟨rfl, hb⟩; have A2 := Lib.hid (acc0 A1.out A1.out.size hb); have BX2 := Lib.hid (BX1.out.under hb BX1.out.lt); clear hb k0 k1 k2 k3 k4 k5 lk; obtain ⟨k0, k1, k2, k3, k4, k5⟩ := cells6 BX2.out; have lk := BX2.out.lt)
      | (go_at_call 10; refine (H1.out _).mono ?_; rintro e w1 ⟨rfl, hb⟩; have A1 := Lib.hid (acc0 A0.out A0.out.size hb); have BX1 := Lib.hid (BX.out.under hb BX.out.lt); clear hb k0 k1 k2 k3 k4 k5 lk; obtain ⟨k0, k1, k2, k3, k4, k5⟩ := cells6 BX1.out; have lk := BX1.out.lt)
      | (go_at_call 15; refine (H3.out _).mono ?_; rintro e w3 ⟨rfl, hb⟩; have A3 := Lib.hid (acc0 A2.out A2.out.size hb); have BX3 := Lib.hid (BX2.out.under hb BX2.out.lt); clear hb; clear k0 k1 k2 k3 k4 k5 lk; obtain ⟨k0, k1, k2, k3, k4, k5⟩ := cells6 BX3.out; have lk := BX3.out.lt))
    go_ret
    exact ⟨by rw [hval2, ← HC.out]; rfl, A3.out⟩
  · have heB : (a1 == b1) = false := by simp [he]
    have hval2 : v = false := by rw [hval]; simp [he]
    clear hval he
    cases m1
    · go_wp2_with (first
      | (go_at_call 10; have h0 := A1; refine (H2.out _).mono ?_; rintro e w2 ⟨rfl, hb⟩; have A2 := Lib.hid (acc0 A1.out A1.out.size hb); have BX2 := Lib.hid (BX1.out.under hb BX1.out.lt); clear hb k0 k1 k2 k3 k4 k5 lk; obtain ⟨k0, k1, k2, k3, k4, k5⟩ := cells6 BX2.out; have lk := BX2.out.lt)
      | (go_at_call 10; refine (H1.out _).mono ?_; rintro e w1 ⟨rfl, hb⟩; have A1 := Lib.hid (acc0 A0.out A0.out.size hb); have BX1 := Lib.hid (BX.out.under hb BX.out.lt); clear hb k0 k1 k2 k3 k4 k5 lk; obtain ⟨k0, k1, k2, k3, k4, k5⟩ := cells6 BX1.out; have lk := BX1.out.lt)
      | (go_at_call 15; refine (H3.out _).mono ?_; rintro e w3 ⟨rfl, hb⟩; have A3 := Lib.hid (acc0 A2.out A2.out.size hb); have BX3 := Lib.hid (BX2.out.under hb BX2.out.lt); clear hb; clear k0 k1 k2 k3 k4 k5 lk; obtain ⟨k0, k1, k2, k3, k4, k5⟩ := cells6 BX3.out; have lk := BX3.out.lt))
      go_ret
      exact ⟨by rw [hval2]; rfl, A1.out⟩
    cases m2
    · go_wp2_with (first
      | (go_at_call 10; have h0 := A1; refine (H2.out _).mono ?_; rintro e w2 ⟨rfl, hb⟩; have A2 := Lib.hid (acc0 A1.out A1.out.size hb); have BX2 := Lib.hid (BX1.out.under hb BX1.out.lt); clear hb k0 k1 k2 k3 k4 k5 lk; obtain ⟨k0, k1, k2, k3, k4, k5⟩ := cells6 BX2.out; have lk := BX2.out.lt)
      | (go_at_call 10; refine (H1.out _).mono ?_; rintro e w1 ⟨rfl, hb⟩; have A1 := Lib.hid (acc0 A0.out A0.out.size hb); have BX1 := Lib.hid (BX.out.under hb BX.out.lt); clear hb k0 k1 k2 k3 k4 k5 lk; obtain ⟨k0, k1, k2, k3, k4, k5⟩ := cells6 BX1.out; have lk := BX1.out.lt)
      | (go_at_call 15; refine (H3.out _).mono ?_; rintro e w3 ⟨rfl, hb⟩; have A3 := Lib.hid (acc0 A2.out A2.out.size hb); have BX3 := Lib.hid (BX2.out.under hb BX2.out.lt); clear hb; clear k0 k1 k2 k3 k4 k5 lk; obtain ⟨k0, k1, k2, k3, k4, k5⟩ := cells6 BX3.out; have lk := BX3.out.lt))
      go_ret
      exact ⟨by rw [hval2]; rfl, A2.out⟩
    go_wp2_with (first
      | (go_at_call 10; have h0 := A1; refine (H2.out _).mono ?_; rintro e w2 ⟨rfl, hb⟩; have A2 := Lib.hid (acc0 A1.out A1.out.size hb); have BX2 := Lib.hid (BX1.out.under hb BX1.out.lt); clear hb k0 k1 k2 k3 k4 k5 lk; obtain ⟨k0, k1, k2, k3, k4, k5⟩ := cells6 BX2.out; have lk := BX2.out.lt)
      | (go_at_call 10; refine (H1.out _).mono ?_; rintro e w1 ⟨rfl, hb⟩; have A1 := Lib.hid (acc0 A0.out A0.out.size hb); have BX1 := Lib.hid (BX.out.under hb BX.out.lt); clear hb k0 k1 k2 k3 k4 k5 lk; obtain ⟨k0, k1, k2, k3, k4, k5⟩ := cells6 BX1.out; have lk := BX1.out.lt)
      | (go_at_call 15; refine (H3.out _).mono ?_; rintro e w3 ⟨rfl, hb⟩; have A3 := Lib.hid (acc0 A2.out A2.out.size hb); have BX3 := Lib.hid (BX2.out.under hb BX2.out.lt); clear hb; clear k0 k1 k2 k3 k4 k5 lk; obtain ⟨k0, k1, k2, k3, k4, k5⟩ := cells6 BX3.out; have lk := BX3.out.lt))
    go_ret
    exact ⟨by rw [hval2]; rfl, A2.out⟩
set_option maxRecDepth 100000 in
set_option maxHeartbeats 4000000 in
theorem refRange_c (a1 a2 a3 b1 b2 b3 : Int) (w : World) : Calls Tryd.prog 17 #[.agg (rng a1 a2 a3 b1 b2 b3)] w fun e w' => e = .returned (.bool (rangeB a1 a2 a3 b1 b2 b3)) ∧ Below w.heap.size w w' := by
  obtain ⟨v, hv⟩ : ∃ v, rangeB a1 a2 a3 b1 b2 b3 = v := ⟨_, rfl⟩
  obtain ⟨m1, hm1⟩ : ∃ v, mayB a1 a2 a3 = v := ⟨_, rfl⟩
  obtain ⟨m2, hm2⟩ : ∃ v, mayB b1 b2 b3 = v := ⟨_, rfl⟩
  obtain ⟨bl, hbl⟩ : ∃ v, belowB a1 a2 a3 b1 b2 b3 = v := ⟨_, rfl⟩
  obtain ⟨cv, hcv⟩ : ∃ v, cmpV a1 a2 a3 b1 b2 b3 = v := ⟨_, rfl⟩
  have hcb := (cmp_below a1 a2 a3 b1 b2 b3).1
  have hval : v = (m1 && (m2 && (decide (a1 = b1) && bl))) := by rw [← hv, rangeB, hm1, hm2, hbl]
  rw [hcv, hbl] at hcb
  rw [hv]
  have C1 := fun w => refMay_c a1 a2 a3 w
  have C2 := fun w => refMay_c b1 b2 b3 w
  have C3 := fun w => below_c a1 a2 a3 b1 b2 b3 w
  simp only [hm1, ver] at C1
  simp only [hm2, ver] at C2
  simp only [hbl, ver] at C3
  have H1 := Lib.hid C1
  have H2 := Lib.hid C2
  have H3 := Lib.hid C3
  have HC := Lib.hid hcb
  clear C1 C2 C3 hv hm1 hm2 hbl hcv hcb
  go_enter Tryd.func17, Tryd.ntmps17
  simp only [rng]
  go_upto_region 1 with fail
  have x0 := Blk.new w #[.int .i64 a1, .int .i64 a2, .int .i64 a3, .int .i64 b1, .int .i64 b2, .int .i64 b3] 40
  have xb := (Below.refl w.heap.size w).alloc (Nat.le_refl _) (.cells #[.int .i64 a1, .int .i64 a2, .int .i64 a3, .int .i64 b1, .int .i64 b2, .int .i64 b3] 40)
  generalize (w.alloc (.cells #[.int .i64 a1, .int .i64 a2, .int .i64 a3, .int .i64 b1, .int .i64 b2, .int .i64 b3] 40)) = W at x0 xb ⊢
  have BX := Lib.hid x0
  have A0 := Lib.hid xb
  obtain ⟨k0, k1, k2, k3, k4, k5⟩ := cells6 x0
  have lk := x0.lt
  clear x0 xb

  by_cases he : a1 = b1
  · have heB : (a1 == b1) = true := by simp [he]
    have hval2 : v = (m1 && (m2 && bl)) := by rw [hval]; simp [he]
    clear hval he
    cases m1
    · go_wp2_with (first
      | (go_at_call 9; have h0 := A1; refine (H2.out _).mono ?_; rintro e w2 ⟨rfl, hb⟩; have A2 := Lib.hid (acc0 A1.out A1.out.size hb); have BX2 := Lib.hid (BX1.out.under hb BX1.out.lt); clear hb k0 k1 k2 k3 k4 k5 lk; obtain ⟨k0, k1, k2, k3, k4, k5⟩ := cells6 BX2.out; have lk := BX2.out.lt)
      | (go_at_call 9; refine (H1.out _).mono ?_; rintro e w1 ⟨rfl, hb⟩; have A1 := Lib.hid (acc0 A0.out A0.out.size hb); have BX1 := Lib.hid (BX.out.under hb BX.out.lt); clear hb k0 k1 k2 k3 k4 k5 lk; obtain ⟨k0, k1, k2, k3, k4, k5⟩ := cells6 BX1.out; have lk := BX1.out.lt)
      | (go_at_call 34; refine (H3.out _).mono ?_; rintro e w3 ⟨rfl, hb⟩; have A3 := Lib.hid (acc0 A2.out A2.out.size hb); have BX3 := Lib.hid (BX2.out.under hb BX2.out.lt); clear hb; clear k0 k1 k2 k3 k4 k5 lk; obtain ⟨k0, k1, k2, k3, k4, k5⟩ := cells6 BX3.out; have lk := BX3.out.lt))
      go_ret
      exact ⟨by rw [hval2]; rfl, A2.out⟩
    cases m2
    · go_wp2_with (first
      | (go_at_call 9; have h0 := A1; refine (H2.out _).mono ?_; rintro e w2 ⟨rfl, hb⟩; have A2 := Lib.hid (acc0 A1.out A1.out.size hb); have BX2 := Lib.hid (BX1.out.under hb BX1.out.lt); clear hb k0 k1 k2 k3 k4 k5 lk; obtain ⟨k0, k1, k2, k3, k4, k5⟩ := cells6 BX2.out; have lk := BX2.out.lt)
      | (go_at_call 9; refine (H1.out _).mono ?_; rintro e w1 ⟨rfl, hb⟩; have A1 := Lib.hid (acc0 A0.out A0.out.size hb); have BX1 := Lib.hid (BX.out.under hb BX.out.lt); clear hb k0 k1 k2 k3 k4 k5 lk; obtain ⟨k0, k1, k2, k3, k4, k5⟩ := cells6 BX1.out; have lk := BX1.out.lt)
      | (go_at_call 34; refine (H3.out _).mono ?_; rintro e w3 ⟨rfl, hb⟩; have A3 := Lib.hid (acc0 A2.out A2.out.size hb); have BX3 := Lib.hid (BX2.out.under hb BX2.out.lt); clear hb; clear k0 k1 k2 k3 k4 k5 lk; obtain ⟨k0, k1, k2, k3, k4, k5⟩ := cells6 BX3.out; have lk := BX3.out.lt))
      go_ret
      exact ⟨by rw [hval2]; rfl, A2.out⟩
    go_wp2_with (first
      | (go_at_call 9; have h0 := A1; refine (H2.out _).mono ?_; rintro e w2 ⟨rfl, hb⟩; have A2 := Lib.hid (acc0 A1.out A1.out.size hb); have BX2 := Lib.hid (BX1.out.under hb BX1.out.lt); clear hb k0 k1 k2 k3 k4 k5 lk; obtain ⟨k0, k1, k2, k3, k4, k5⟩ := cells6 BX2.out; have lk := BX2.out.lt)
      | (go_at_call 9; refine (H1.out _).mono ?_; rintro e w1 ⟨rfl, hb⟩; have A1 := Lib.hid (acc0 A0.out A0.out.size hb); have BX1 := Lib.hid (BX.out.under hb BX.out.lt); clear hb k0 k1 k2 k3 k4 k5 lk; obtain ⟨k0, k1, k2, k3, k4, k5⟩ := cells6 BX1.out; have lk := BX1.out.lt)
      | (go_at_call 34; refine (H3.out _).mono ?_; rintro e w3 ⟨rfl, hb⟩; have A3 := Lib.hid (acc0 A2.out A2.out.size hb); have BX3 := Lib.hid (BX2.out.under hb BX2.out.lt); clear hb; clear k0 k1 k2 k3 k4 k5 lk; obtain ⟨k0, k1, k2, k3, k4, k5⟩ := cells6 BX3.out; have lk := BX3.out.lt))
    go_ret
    exact ⟨by rw [hval2]; rfl, A3.out⟩
  · have heB : (a1 == b1) = false := by simp [he]
    have hval2 : v = false := by rw [hval]; simp [he]
    clear hval he
    cases m1
    · go_wp2_with (first
      | (go_at_call 9; have h0 := A1; refine (H2.out _).mono ?_; rintro e w2 ⟨rfl, hb⟩; have A2 := Lib.hid (acc0 A1.out A1.out.size hb); have BX2 := Lib.hid (BX1.out.under hb BX1.out.lt); clear hb k0 k1 k2 k3 k4 k5 lk; obtain ⟨k0, k1, k2, k3, k4, k5⟩ := cells6 BX2.out; have lk := BX2.out.lt)
      | (go_at_call 9; refine (H1.out _).mono ?_; rintro e w1 ⟨rfl, hb⟩; have A1 := Lib.hid (acc0 A0.out A0.out.size hb); have BX1 := Lib.hid (BX.out.under hb BX.out.lt); clear hb k0 k1 k2 k3 k4 k5 lk; obtain ⟨k0, k1, k2, k3, k4, k5⟩ := cells6 BX1.out; have lk := BX1.out.lt)
      | (go_at_call 34; refine (H3.out _).mono ?_; rintro e w3 ⟨rfl, hb⟩; have A3 := Lib.hid (acc0 A2.out A2.out.size hb); have BX3 := Lib.hid (BX2.out.under hb BX2.out.lt); clear hb; clear k0 k1 k2 k3 k4 k5 lk; obtain ⟨k0, k1, k2, k3, k4, k5⟩ := cells6 BX3.out; have lk := BX3.out.lt))
      go_ret
      exact ⟨by rw [hval2]; rfl, A2.out⟩
    cases m2
    · go_wp2_with (first
      | (go_at_call 9; have h0 := A1; refine (H2.out _).mono ?_; rintro e w2 ⟨rfl, hb⟩; have A2 := Lib.hid (acc0 A1.out A1.out.size hb); have BX2 := Lib.hid (BX1.out.under hb BX1.out.lt); clear hb k0 k1 k2 k3 k4 k5 lk; obtain ⟨k0, k1, k2, k3, k4, k5⟩ := cells6 BX2.out; have lk := BX2.out.lt)
      | (go_at_call 9; refine (H1.out _).mono ?_; rintro e w1 ⟨rfl, hb⟩; have A1 := Lib.hid (acc0 A0.out A0.out.size hb); have BX1 := Lib.hid (BX.out.under hb BX.out.lt); clear hb k0 k1 k2 k3 k4 k5 lk; obtain ⟨k0, k1, k2, k3, k4, k5⟩ := cells6 BX1.out; have lk := BX1.out.lt)
      | (go_at_call 34; refine (H3.out _).mono ?_; rintro e w3 ⟨rfl, hb⟩; have A3 := Lib.hid (acc0 A2.out A2.out.size hb); have BX3 := Lib.hid (BX2.out.under hb BX2.out.lt); clear hb; clear k0 k1 k2 k3 k4 k5 lk; obtain ⟨k0, k1, k2, k3, k4, k5⟩ := cells6 BX3.out; have lk := BX3.out.lt))
      go_ret
      exact ⟨by rw [hval2]; rfl, A2.out⟩
    go_wp2_with (first
      | (go_at_call 9; have h0 := A1; refine (H2.out _).mono ?_; rintro e w2 ⟨rfl, hb⟩; have A2 := Lib.hid (acc0 A1.out A1.out.size hb); have BX2 := Lib.hid (BX1.out.under hb BX1.out.lt); clear hb k0 k1 k2 k3 k4 k5 lk; obtain ⟨k0, k1, k2, k3, k4, k5⟩ := cells6 BX2.out; have lk := BX2.out.lt)
      | (go_at_call 9; refine (H1.out _).mono ?_; rintro e w1 ⟨rfl, hb⟩; have A1 := Lib.hid (acc0 A0.out A0.out.size hb); have BX1 := Lib.hid (BX.out.under hb BX.out.lt); clear hb k0 k1 k2 k3 k4 k5 lk; obtain ⟨k0, k1, k2, k3, k4, k5⟩ := cells6 BX1.out; have lk := BX1.out.lt)
      | (go_at_call 34; refine (H3.out _).mono ?_; rintro e w3 ⟨rfl, hb⟩; have A3 := Lib.hid (acc0 A2.out A2.out.size hb); have BX3 := Lib.hid (BX2.out.under hb BX2.out.lt); clear hb; clear k0 k1 k2 k3 k4 k5 lk; obtain ⟨k0, k1, k2, k3, k4, k5⟩ := cells6 BX3.out; have lk := BX3.out.lt))
    go_ret
    exact ⟨by rw [hval2]; rfl, A2.out⟩
set_option maxRecDepth 100000 in
set_option maxHeartbeats 4000000 in
theorem semIn_c (a1 a2 a3 b1 b2 b3 c1 c2 c3 : Int) (w : World) : Calls Tryd.prog 19 #[.agg (rng a1 a2 a3 b1 b2 b3), .agg (ver c1 c2 c3)] w fun e w' => e = .returned (.bool (inB a1 a2 a3 b1 b2 b3 c1 c2 c3)) ∧ Below w.heap.size w w' := by
  obtain ⟨v, hv⟩ : ∃ v, inB a1 a2 a3 b1 b2 b3 c1 c2 c3 = v := ⟨_, rfl⟩
  obtain ⟨m1, hm1⟩ : ∃ v, rangeB a1 a2 a3 b1 b2 b3 = v := ⟨_, rfl⟩
  obtain ⟨m2, hm2⟩ : ∃ v, mayB c1 c2 c3 = v := ⟨_, rfl⟩
  obtain ⟨b1', hbl1⟩ : ∃ v, belowB c1 c2 c3 a1 a2 a3 = v := ⟨_, rfl⟩
  obtain ⟨b2', hbl2⟩ : ∃ v, belowB c1 c2 c3 b1 b2 b3 = v := ⟨_, rfl⟩
  obtain ⟨cv1, hcv1⟩ : ∃ v, cmpV a1 a2 a3 c1 c2 c3 = v := ⟨_, rfl⟩
  obtain ⟨cv2, hcv2⟩ : ∃ v, cmpV c1 c2 c3 b1 b2 b3 = v := ⟨_, rfl⟩
  have hcb1 := (cmp_below a1 a2 a3 c1 c2 c3).2
  have hcb2 := (cmp_below c1 c2 c3 b1 b2 b3).1
  have hval : v = (m1 && (m2 && (!b1' && b2'))) := by rw [← hv, inB, hm1, hm2, hbl1, hbl2]
  rw [hcv1, hbl1] at hcb1
  rw [hcv2, hbl2] at hcb2
  rw [hv]
  have C1 := fun w => semRange_c a1 a2 a3 b1 b2 b3 w
  have C2 := fun w => semMay_c c1 c2 c3 w
  have C3 := fun w => cmp_c a1 a2 a3 c1 c2 c3 w
  have C4 := fun w => cmp_c c1 c2 c3 b1 b2 b3 w
  simp only [hm1, rng] at C1
  simp only [hm2, ver] at C2
  simp only [hcv1, ver] at C3
  simp only [hcv2, ver] at C4
  have H1 := Lib.hid C1
  have H2 := Lib.hid C2
  have H3 := Lib.hid C3
  have H4 := Lib.hid C4
  have HC1 := Lib.hid hcb1
  have HC2 := Lib.hid hcb2
  have HVAL := Lib.hid hval
  clear hval C1 C2 C3 C4 hv hm1 hm2 hbl1 hbl2 hcv1 hcv2 hcb1 hcb2
  go_enter Tryd.func19, Tryd.ntmps19
  simp only [rng, ver]
  go_upto_region 1 with fail
  have x0 := (Blk.new w #[.int .i64 a1, .int .i64 a2, .int .i64 a3, .int .i64 b1, .int .i64 b2, .int .i64 b3] 40).alloc (.cells #[.int .i64 c1, .int .i64 c2, .int .i64 c3] 23)
  have y0 := Blk.new (w.alloc (.cells #[.int .i64 a1, .int .i64 a2, .int .i64 a3, .int .i64 b1, .int .i64 b2, .int .i64 b3] 40)) #[.int .i64 c1, .int .i64 c2, .int .i64 c3] 23
  have hz : (w.alloc (.cells #[.int .i64 a1, .int .i64 a2, .int .i64 a3, .int .i64 b1, .int .i64 b2, .int .i64 b3] 40)).heap.size = w.heap.size + 1 := by simp
  rw [hz] at y0
  have xb := ((Below.refl w.heap.size w).alloc (Nat.le_refl _) (.cells #[.int .i64 a1, .int .i64 a2, .int .i64 a3, .int .i64 b1, .int .i64 b2, .int .i64 b3] 40)).alloc (by simp) (.cells #[.int .i64 c1, .int .i64 c2, .int .i64 c3] 23)
  generalize ((w.alloc (.cells #[.int .i64 a1, .int .i64 a2, .int .i64 a3, .int .i64 b1, .int .i64 b2, .int .i64 b3] 40)).alloc (.cells #[.int .i64 c1, .int .i64 c2, .int .i64 c3] 23)) = W at x0 y0 xb ⊢
  have BX := Lib.hid x0
  have BY := Lib.hid y0
  have A0 := Lib.hid xb
  obtain ⟨k0, k1, k2, k3, k4, k5⟩ := cells6 x0
  have lk := x0.lt
  obtain ⟨y0, y1, y2⟩ := cells3 BY.out
  have ly := BY.out.lt
  clear x0 xb hz

  cases m1
  · go_wp2_with (first
      | (go_at_call 18; refine (H1.out _).mono ?_; rintro e w1 ⟨rfl, hb⟩; have A1 := Lib.hid (acc0 A0.out A0.out.size hb); have BX1 := Lib.hid (BX.out.under hb BX.out.lt); have BY1 := Lib.hid (BY.out.under hb BY.out.lt); clear hb k0 k1 k2 k3 k4 k5 lk y0 y1 y2 ly; obtain ⟨k0, k1, k2, k3, k4, k5⟩ := cells6 BX1.out; have lk := BX1.out.lt; obtain ⟨y0, y1, y2⟩ := cells3 BY1.out; have ly := BY1.out.lt)
      | (go_at_call 10; refine (H2.out _).mono ?_; rintro e w2 ⟨rfl, hb⟩; have A2 := Lib.hid (acc0 A1.out A1.out.size hb); have BX2 := Lib.hid (BX1.out.under hb BX1.out.lt); have BY2 := Lib.hid (BY1.out.under hb BY1.out.lt); clear hb k0 k1 k2 k3 k4 k5 lk y0 y1 y2 ly; obtain ⟨k0, k1, k2, k3, k4, k5⟩ := cells6 BX2.out; have lk := BX2.out.lt; obtain ⟨y0, y1, y2⟩ := cells3 BY2.out; have ly := BY2.out.lt)
      | (go_at_call 15; have h0 := A3; refine (H4.out _).mono ?_; rintro e w4 ⟨rfl, hb⟩; have A4 := Lib.hid (acc0 A3.out A3.out.size hb); have BX4 := Lib.hid (BX3.out.under hb BX3.out.lt); have BY4 := Lib.hid (BY3.out.under hb BY3.out.lt); clear hb k0 k1 k2 k3 k4 k5 lk y0 y1 y2 ly; obtain ⟨k0, k1, k2, k3, k4, k5⟩ := cells6 BX4.out; have lk := BX4.out.lt; obtain ⟨y0, y1, y2⟩ := cells3 BY4.out; have ly := BY4.out.lt)
      | (go_at_call 15; refine (H3.out _).mono ?_; rintro e w3 ⟨rfl, hb⟩; have A3 := Lib.hid (acc0 A2.out A2.out.size hb); have BX3 := Lib.hid (BX2.out.under hb BX2.out.lt); have BY3 := Lib.hid (BY2.out.under hb BY2.out.lt); clear hb k0 k1 k2 k3 k4 k5 lk y0 y1 y2 ly; obtain ⟨k0, k1, k2, k3, k4, k5⟩ := cells6 BX3.out; have lk := BX3.out.lt; obtain ⟨y0, y1, y2⟩ := cells3 BY3.out; have ly := BY3.out.lt))
    go_ret
    exact ⟨by rw [HVAL.out]; rfl, A1.out⟩
  cases m2
  · go_wp2_with (first
      | (go_at_call 18; refine (H1.out _).mono ?_; rintro e w1 ⟨rfl, hb⟩; have A1 := Lib.hid (acc0 A0.out A0.out.size hb); have BX1 := Lib.hid (BX.out.under hb BX.out.lt); have BY1 := Lib.hid (BY.out.under hb BY.out.lt); clear hb k0 k1 k2 k3 k4 k5 lk y0 y1 y2 ly; obtain ⟨k0, k1, k2, k3, k4, k5⟩ := cells6 BX1.out; have lk := BX1.out.lt; obtain ⟨y0, y1, y2⟩ := cells3 BY1.out; have ly := BY1.out.lt)
      | (go_at_call 10; refine (H2.out _).mono ?_; rintro e w2 ⟨rfl, hb⟩; have A2 := Lib.hid (acc0 A1.out A1.out.size hb); have BX2 := Lib.hid (BX1.out.under hb BX1.out.lt); have BY2 := Lib.hid (BY1.out.under hb BY1.out.lt); clear hb k0 k1 k2 k3 k4 k5 lk y0 y1 y2 ly; obtain ⟨k0, k1, k2, k3, k4, k5⟩ := cells6 BX2.out; have lk := BX2.out.lt; obtain ⟨y0, y1, y2⟩ := cells3 BY2.out; have ly := BY2.out.lt)
      | (go_at_call 15; have h0 := A3; refine (H4.out _).mono ?_; rintro e w4 ⟨rfl, hb⟩; have A4 := Lib.hid (acc0 A3.out A3.out.size hb); have BX4 := Lib.hid (BX3.out.under hb BX3.out.lt); have BY4 := Lib.hid (BY3.out.under hb BY3.out.lt); clear hb k0 k1 k2 k3 k4 k5 lk y0 y1 y2 ly; obtain ⟨k0, k1, k2, k3, k4, k5⟩ := cells6 BX4.out; have lk := BX4.out.lt; obtain ⟨y0, y1, y2⟩ := cells3 BY4.out; have ly := BY4.out.lt)
      | (go_at_call 15; refine (H3.out _).mono ?_; rintro e w3 ⟨rfl, hb⟩; have A3 := Lib.hid (acc0 A2.out A2.out.size hb); have BX3 := Lib.hid (BX2.out.under hb BX2.out.lt); have BY3 := Lib.hid (BY2.out.under hb BY2.out.lt); clear hb k0 k1 k2 k3 k4 k5 lk y0 y1 y2 ly; obtain ⟨k0, k1, k2, k3, k4, k5⟩ := cells6 BX3.out; have lk := BX3.out.lt; obtain ⟨y0, y1, y2⟩ := cells3 BY3.out; have ly := BY3.out.lt))
    go_ret
    exact ⟨by rw [HVAL.out]; rfl, A2.out⟩
  cases b1'
  rotate_left
  · have hc : ¬ cv1 ≤ 0 := by have := of_decide_eq_true HC1.out; omega
    go_wp2_with (first
      | (go_at_call 18; refine (H1.out _).mono ?_; rintro e w1 ⟨rfl, hb⟩; have A1 := Lib.hid (acc0 A0.out A0.out.size hb); have BX1 := Lib.hid (BX.out.under hb BX.out.lt); have BY1 := Lib.hid (BY.out.under hb BY.out.lt); clear hb k0 k1 k2 k3 k4 k5 lk y0 y1 y2 ly; obtain ⟨k0, k1, k2, k3, k4, k5⟩ := cells6 BX1.out; have lk := BX1.out.lt; obtain ⟨y0, y1, y2⟩ := cells3 BY1.out; have ly := BY1.out.lt)
      | (go_at_call 10; refine (H2.out _).mono ?_; rintro e w2 ⟨rfl, hb⟩; have A2 := Lib.hid (acc0 A1.out A1.out.size hb); have BX2 := Lib.hid (BX1.out.under hb BX1.out.lt); have BY2 := Lib.hid (BY1.out.under hb BY1.out.lt); clear hb k0 k1 k2 k3 k4 k5 lk y0 y1 y2 ly; obtain ⟨k0, k1, k2, k3, k4, k5⟩ := cells6 BX2.out; have lk := BX2.out.lt; obtain ⟨y0, y1, y2⟩ := cells3 BY2.out; have ly := BY2.out.lt)
      | (go_at_call 15; have h0 := A3; refine (H4.out _).mono ?_; rintro e w4 ⟨rfl, hb⟩; have A4 := Lib.hid (acc0 A3.out A3.out.size hb); have BX4 := Lib.hid (BX3.out.under hb BX3.out.lt); have BY4 := Lib.hid (BY3.out.under hb BY3.out.lt); clear hb k0 k1 k2 k3 k4 k5 lk y0 y1 y2 ly; obtain ⟨k0, k1, k2, k3, k4, k5⟩ := cells6 BX4.out; have lk := BX4.out.lt; obtain ⟨y0, y1, y2⟩ := cells3 BY4.out; have ly := BY4.out.lt)
      | (go_at_call 15; refine (H3.out _).mono ?_; rintro e w3 ⟨rfl, hb⟩; have A3 := Lib.hid (acc0 A2.out A2.out.size hb); have BX3 := Lib.hid (BX2.out.under hb BX2.out.lt); have BY3 := Lib.hid (BY2.out.under hb BY2.out.lt); clear hb k0 k1 k2 k3 k4 k5 lk y0 y1 y2 ly; obtain ⟨k0, k1, k2, k3, k4, k5⟩ := cells6 BX3.out; have lk := BX3.out.lt; obtain ⟨y0, y1, y2⟩ := cells3 BY3.out; have ly := BY3.out.lt))
    go_ret
    exact ⟨by rw [HVAL.out]; rfl, A3.out⟩
  have hc : cv1 ≤ 0 := by have := of_decide_eq_false HC1.out; omega
  go_wp2_with (first
      | (go_at_call 18; refine (H1.out _).mono ?_; rintro e w1 ⟨rfl, hb⟩; have A1 := Lib.hid (acc0 A0.out A0.out.size hb); have BX1 := Lib.hid (BX.out.under hb BX.out.lt); have BY1 := Lib.hid (BY.out.under hb BY.out.lt); clear hb k0 k1 k2 k3 k4 k5 lk y0 y1 y2 ly; obtain ⟨k0, k1, k2, k3, k4, k5⟩ := cells6 BX1.out; have lk := BX1.out.lt; obtain ⟨y0, y1, y2⟩ := cells3 BY1.out; have ly := BY1.out.lt)
      | (go_at_call 10; refine (H2.out _).mono ?_; rintro e w2 ⟨rfl, hb⟩; have A2 := Lib.hid (acc0 A1.out A1.out.size hb); have BX2 := Lib.hid (BX1.out.under hb BX1.out.lt); have BY2 := Lib.hid (BY1.out.under hb BY1.out.lt); clear hb k0 k1 k2 k3 k4 k5 lk y0 y1 y2 ly; obtain ⟨k0, k1, k2, k3, k4, k5⟩ := cells6 BX2.out; have lk := BX2.out.lt; obtain ⟨y0, y1, y2⟩ := cells3 BY2.out; have ly := BY2.out.lt)
      | (go_at_call 15; have h0 := A3; refine (H4.out _).mono ?_; rintro e w4 ⟨rfl, hb⟩; have A4 := Lib.hid (acc0 A3.out A3.out.size hb); have BX4 := Lib.hid (BX3.out.under hb BX3.out.lt); have BY4 := Lib.hid (BY3.out.under hb BY3.out.lt); clear hb k0 k1 k2 k3 k4 k5 lk y0 y1 y2 ly; obtain ⟨k0, k1, k2, k3, k4, k5⟩ := cells6 BX4.out; have lk := BX4.out.lt; obtain ⟨y0, y1, y2⟩ := cells3 BY4.out; have ly := BY4.out.lt)
      | (go_at_call 15; refine (H3.out _).mono ?_; rintro e w3 ⟨rfl, hb⟩; have A3 := Lib.hid (acc0 A2.out A2.out.size hb); have BX3 := Lib.hid (BX2.out.under hb BX2.out.lt); have BY3 := Lib.hid (BY2.out.under hb BY2.out.lt); clear hb k0 k1 k2 k3 k4 k5 lk y0 y1 y2 ly; obtain ⟨k0, k1, k2, k3, k4, k5⟩ := cells6 BX3.out; have lk := BX3.out.lt; obtain ⟨y0, y1, y2⟩ := cells3 BY3.out; have ly := BY3.out.lt))
  go_ret
  exact ⟨by rw [HVAL.out, ← HC2.out]; rfl, A4.out⟩
set_option maxRecDepth 100000 in
set_option maxHeartbeats 4000000 in
theorem refIn_c (a1 a2 a3 b1 b2 b3 c1 c2 c3 : Int) (w : World) : Calls Tryd.prog 20 #[.agg (rng a1 a2 a3 b1 b2 b3), .agg (ver c1 c2 c3)] w fun e w' => e = .returned (.bool (inB a1 a2 a3 b1 b2 b3 c1 c2 c3)) ∧ Below w.heap.size w w' := by
  obtain ⟨v, hv⟩ : ∃ v, inB a1 a2 a3 b1 b2 b3 c1 c2 c3 = v := ⟨_, rfl⟩
  obtain ⟨m1, hm1⟩ : ∃ v, rangeB a1 a2 a3 b1 b2 b3 = v := ⟨_, rfl⟩
  obtain ⟨m2, hm2⟩ : ∃ v, mayB c1 c2 c3 = v := ⟨_, rfl⟩
  obtain ⟨b1', hbl1⟩ : ∃ v, belowB c1 c2 c3 a1 a2 a3 = v := ⟨_, rfl⟩
  obtain ⟨b2', hbl2⟩ : ∃ v, belowB c1 c2 c3 b1 b2 b3 = v := ⟨_, rfl⟩
  obtain ⟨cv1, hcv1⟩ : ∃ v, cmpV a1 a2 a3 c1 c2 c3 = v := ⟨_, rfl⟩
  obtain ⟨cv2, hcv2⟩ : ∃ v, cmpV c1 c2 c3 b1 b2 b3 = v := ⟨_, rfl⟩
  have hcb1 := (cmp_below a1 a2 a3 c1 c2 c3).2
  have hcb2 := (cmp_below c1 c2 c3 b1 b2 b3).1
  have hval : v = (m1 && (m2 && (!b1' && b2'))) := by rw [← hv, inB, hm1, hm2, hbl1, hbl2]
  rw [hcv1, hbl1] at hcb1
  rw [hcv2, hbl2] at hcb2
  rw [hv]
  have C1 := fun w => refRange_c a1 a2 a3 b1 b2 b3 w
  have C2 := fun w => refMay_c c1 c2 c3 w
  have C3 := fun w => below_c c1 c2 c3 a1 a2 a3 w
  have C4 := fun w => below_c c1 c2 c3 b1 b2 b3 w
  simp only [hm1, rng] at C1
  simp only [hm2, ver] at C2
  simp only [hbl1, ver] at C3
  simp only [hbl2, ver] at C4
  have H1 := Lib.hid C1
  have H2 := Lib.hid C2
  have H3 := Lib.hid C3
  have H4 := Lib.hid C4
  have HC1 := Lib.hid hcb1
  have HC2 := Lib.hid hcb2
  have HVAL := Lib.hid hval
  clear hval C1 C2 C3 C4 hv hm1 hm2 hbl1 hbl2 hcv1 hcv2 hcb1 hcb2
  go_enter Tryd.func20, Tryd.ntmps20
  simp only [rng, ver]
  go_upto_region 1 with fail
  have x0 := (Blk.new w #[.int .i64 a1, .int .i64 a2, .int .i64 a3, .int .i64 b1, .int .i64 b2, .int .i64 b3] 40).alloc (.cells #[.int .i64 c1, .int .i64 c2, .int .i64 c3] 23)
  have y0 := Blk.new (w.alloc (.cells #[.int .i64 a1, .int .i64 a2, .int .i64 a3, .int .i64 b1, .int .i64 b2, .int .i64 b3] 40)) #[.int .i64 c1, .int .i64 c2, .int .i64 c3] 23
  have hz : (w.alloc (.cells #[.int .i64 a1, .int .i64 a2, .int .i64 a3, .int .i64 b1, .int .i64 b2, .int .i64 b3] 40)).heap.size = w.heap.size + 1 := by simp
  rw [hz] at y0
  have xb := ((Below.refl w.heap.size w).alloc (Nat.le_refl _) (.cells #[.int .i64 a1, .int .i64 a2, .int .i64 a3, .int .i64 b1, .int .i64 b2, .int .i64 b3] 40)).alloc (by simp) (.cells #[.int .i64 c1, .int .i64 c2, .int .i64 c3] 23)
  generalize ((w.alloc (.cells #[.int .i64 a1, .int .i64 a2, .int .i64 a3, .int .i64 b1, .int .i64 b2, .int .i64 b3] 40)).alloc (.cells #[.int .i64 c1, .int .i64 c2, .int .i64 c3] 23)) = W at x0 y0 xb ⊢
  have BX := Lib.hid x0
  have BY := Lib.hid y0
  have A0 := Lib.hid xb
  obtain ⟨k0, k1, k2, k3, k4, k5⟩ := cells6 x0
  have lk := x0.lt
  obtain ⟨y0, y1, y2⟩ := cells3 BY.out
  have ly := BY.out.lt
  clear x0 xb hz

  cases m1
  · go_wp2_with (first
      | (go_at_call 17; refine (H1.out _).mono ?_; rintro e w1 ⟨rfl, hb⟩; have A1 := Lib.hid (acc0 A0.out A0.out.size hb); have BX1 := Lib.hid (BX.out.under hb BX.out.lt); have BY1 := Lib.hid (BY.out.under hb BY.out.lt); clear hb k0 k1 k2 k3 k4 k5 lk y0 y1 y2 ly; obtain ⟨k0, k1, k2, k3, k4, k5⟩ := cells6 BX1.out; have lk := BX1.out.lt; obtain ⟨y0, y1, y2⟩ := cells3 BY1.out; have ly := BY1.out.lt)
      | (go_at_call 9; refine (H2.out _).mono ?_; rintro e w2 ⟨rfl, hb⟩; have A2 := Lib.hid (acc0 A1.out A1.out.size hb); have BX2 := Lib.hid (BX1.out.under hb BX1.out.lt); have BY2 := Lib.hid (BY1.out.under hb BY1.out.lt); clear hb k0 k1 k2 k3 k4 k5 lk y0 y1 y2 ly; obtain ⟨k0, k1, k2, k3, k4, k5⟩ := cells6 BX2.out; have lk := BX2.out.lt; obtain ⟨y0, y1, y2⟩ := cells3 BY2.out; have ly := BY2.out.lt)
      | (go_at_call 34; have h0 := A3; refine (H4.out _).mono ?_; rintro e w4 ⟨rfl, hb⟩; have A4 := Lib.hid (acc0 A3.out A3.out.size hb); have BX4 := Lib.hid (BX3.out.under hb BX3.out.lt); have BY4 := Lib.hid (BY3.out.under hb BY3.out.lt); clear hb k0 k1 k2 k3 k4 k5 lk y0 y1 y2 ly; obtain ⟨k0, k1, k2, k3, k4, k5⟩ := cells6 BX4.out; have lk := BX4.out.lt; obtain ⟨y0, y1, y2⟩ := cells3 BY4.out; have ly := BY4.out.lt)
      | (go_at_call 34; refine (H3.out _).mono ?_; rintro e w3 ⟨rfl, hb⟩; have A3 := Lib.hid (acc0 A2.out A2.out.size hb); have BX3 := Lib.hid (BX2.out.under hb BX2.out.lt); have BY3 := Lib.hid (BY2.out.under hb BY2.out.lt); clear hb k0 k1 k2 k3 k4 k5 lk y0 y1 y2 ly; obtain ⟨k0, k1, k2, k3, k4, k5⟩ := cells6 BX3.out; have lk := BX3.out.lt; obtain ⟨y0, y1, y2⟩ := cells3 BY3.out; have ly := BY3.out.lt))
    go_ret
    exact ⟨by rw [HVAL.out]; rfl, A2.out⟩
  cases m2
  · go_wp2_with (first
      | (go_at_call 17; refine (H1.out _).mono ?_; rintro e w1 ⟨rfl, hb⟩; have A1 := Lib.hid (acc0 A0.out A0.out.size hb); have BX1 := Lib.hid (BX.out.under hb BX.out.lt); have BY1 := Lib.hid (BY.out.under hb BY.out.lt); clear hb k0 k1 k2 k3 k4 k5 lk y0 y1 y2 ly; obtain ⟨k0, k1, k2, k3, k4, k5⟩ := cells6 BX1.out; have lk := BX1.out.lt; obtain ⟨y0, y1, y2⟩ := cells3 BY1.out; have ly := BY1.out.lt)
      | (go_at_call 9; refine (H2.out _).mono ?_; rintro e w2 ⟨rfl, hb⟩; have A2 := Lib.hid (acc0 A1.out A1.out.size hb); have BX2 := Lib.hid (BX1.out.under hb BX1.out.lt); have BY2 := Lib.hid (BY1.out.under hb BY1.out.lt); clear hb k0 k1 k2 k3 k4 k5 lk y0 y1 y2 ly; obtain ⟨k0, k1, k2, k3, k4, k5⟩ := cells6 BX2.out; have lk := BX2.out.lt; obtain ⟨y0, y1, y2⟩ := cells3 BY2.out; have ly := BY2.out.lt)
      | (go_at_call 34; have h0 := A3; refine (H4.out _).mono ?_; rintro e w4 ⟨rfl, hb⟩; have A4 := Lib.hid (acc0 A3.out A3.out.size hb); have BX4 := Lib.hid (BX3.out.under hb BX3.out.lt); have BY4 := Lib.hid (BY3.out.under hb BY3.out.lt); clear hb k0 k1 k2 k3 k4 k5 lk y0 y1 y2 ly; obtain ⟨k0, k1, k2, k3, k4, k5⟩ := cells6 BX4.out; have lk := BX4.out.lt; obtain ⟨y0, y1, y2⟩ := cells3 BY4.out; have ly := BY4.out.lt)
      | (go_at_call 34; refine (H3.out _).mono ?_; rintro e w3 ⟨rfl, hb⟩; have A3 := Lib.hid (acc0 A2.out A2.out.size hb); have BX3 := Lib.hid (BX2.out.under hb BX2.out.lt); have BY3 := Lib.hid (BY2.out.under hb BY2.out.lt); clear hb k0 k1 k2 k3 k4 k5 lk y0 y1 y2 ly; obtain ⟨k0, k1, k2, k3, k4, k5⟩ := cells6 BX3.out; have lk := BX3.out.lt; obtain ⟨y0, y1, y2⟩ := cells3 BY3.out; have ly := BY3.out.lt))
    go_ret
    exact ⟨by rw [HVAL.out]; rfl, A2.out⟩
  cases b1'
  rotate_left
  · go_wp2_with (first
      | (go_at_call 17; refine (H1.out _).mono ?_; rintro e w1 ⟨rfl, hb⟩; have A1 := Lib.hid (acc0 A0.out A0.out.size hb); have BX1 := Lib.hid (BX.out.under hb BX.out.lt); have BY1 := Lib.hid (BY.out.under hb BY.out.lt); clear hb k0 k1 k2 k3 k4 k5 lk y0 y1 y2 ly; obtain ⟨k0, k1, k2, k3, k4, k5⟩ := cells6 BX1.out; have lk := BX1.out.lt; obtain ⟨y0, y1, y2⟩ := cells3 BY1.out; have ly := BY1.out.lt)
      | (go_at_call 9; refine (H2.out _).mono ?_; rintro e w2 ⟨rfl, hb⟩; have A2 := Lib.hid (acc0 A1.out A1.out.size hb); have BX2 := Lib.hid (BX1.out.under hb BX1.out.lt); have BY2 := Lib.hid (BY1.out.under hb BY1.out.lt); clear hb k0 k1 k2 k3 k4 k5 lk y0 y1 y2 ly; obtain ⟨k0, k1, k2, k3, k4, k5⟩ := cells6 BX2.out; have lk := BX2.out.lt; obtain ⟨y0, y1, y2⟩ := cells3 BY2.out; have ly := BY2.out.lt)
      | (go_at_call 34; have h0 := A3; refine (H4.out _).mono ?_; rintro e w4 ⟨rfl, hb⟩; have A4 := Lib.hid (acc0 A3.out A3.out.size hb); have BX4 := Lib.hid (BX3.out.under hb BX3.out.lt); have BY4 := Lib.hid (BY3.out.under hb BY3.out.lt); clear hb k0 k1 k2 k3 k4 k5 lk y0 y1 y2 ly; obtain ⟨k0, k1, k2, k3, k4, k5⟩ := cells6 BX4.out; have lk := BX4.out.lt; obtain ⟨y0, y1, y2⟩ := cells3 BY4.out; have ly := BY4.out.lt)
      | (go_at_call 34; refine (H3.out _).mono ?_; rintro e w3 ⟨rfl, hb⟩; have A3 := Lib.hid (acc0 A2.out A2.out.size hb); have BX3 := Lib.hid (BX2.out.under hb BX2.out.lt); have BY3 := Lib.hid (BY2.out.under hb BY2.out.lt); clear hb k0 k1 k2 k3 k4 k5 lk y0 y1 y2 ly; obtain ⟨k0, k1, k2, k3, k4, k5⟩ := cells6 BX3.out; have lk := BX3.out.lt; obtain ⟨y0, y1, y2⟩ := cells3 BY3.out; have ly := BY3.out.lt))
    go_ret
    exact ⟨by rw [HVAL.out]; rfl, A3.out⟩
  go_wp2_with (first
      | (go_at_call 17; refine (H1.out _).mono ?_; rintro e w1 ⟨rfl, hb⟩; have A1 := Lib.hid (acc0 A0.out A0.out.size hb); have BX1 := Lib.hid (BX.out.under hb BX.out.lt); have BY1 := Lib.hid (BY.out.under hb BY.out.lt); clear hb k0 k1 k2 k3 k4 k5 lk y0 y1 y2 ly; obtain ⟨k0, k1, k2, k3, k4, k5⟩ := cells6 BX1.out; have lk := BX1.out.lt; obtain ⟨y0, y1, y2⟩ := cells3 BY1.out; have ly := BY1.out.lt)
      | (go_at_call 9; refine (H2.out _).mono ?_; rintro e w2 ⟨rfl, hb⟩; have A2 := Lib.hid (acc0 A1.out A1.out.size hb); have BX2 := Lib.hid (BX1.out.under hb BX1.out.lt); have BY2 := Lib.hid (BY1.out.under hb BY1.out.lt); clear hb k0 k1 k2 k3 k4 k5 lk y0 y1 y2 ly; obtain ⟨k0, k1, k2, k3, k4, k5⟩ := cells6 BX2.out; have lk := BX2.out.lt; obtain ⟨y0, y1, y2⟩ := cells3 BY2.out; have ly := BY2.out.lt)
      | (go_at_call 34; have h0 := A3; refine (H4.out _).mono ?_; rintro e w4 ⟨rfl, hb⟩; have A4 := Lib.hid (acc0 A3.out A3.out.size hb); have BX4 := Lib.hid (BX3.out.under hb BX3.out.lt); have BY4 := Lib.hid (BY3.out.under hb BY3.out.lt); clear hb k0 k1 k2 k3 k4 k5 lk y0 y1 y2 ly; obtain ⟨k0, k1, k2, k3, k4, k5⟩ := cells6 BX4.out; have lk := BX4.out.lt; obtain ⟨y0, y1, y2⟩ := cells3 BY4.out; have ly := BY4.out.lt)
      | (go_at_call 34; refine (H3.out _).mono ?_; rintro e w3 ⟨rfl, hb⟩; have A3 := Lib.hid (acc0 A2.out A2.out.size hb); have BX3 := Lib.hid (BX2.out.under hb BX2.out.lt); have BY3 := Lib.hid (BY2.out.under hb BY2.out.lt); clear hb k0 k1 k2 k3 k4 k5 lk y0 y1 y2 ly; obtain ⟨k0, k1, k2, k3, k4, k5⟩ := cells6 BX3.out; have lk := BX3.out.lt; obtain ⟨y0, y1, y2⟩ := cells3 BY3.out; have ly := BY3.out.lt))
  go_ret
  exact ⟨by rw [HVAL.out]; rfl, A4.out⟩
end Go.Proofs.YtlpgkldialmofaaDoor
