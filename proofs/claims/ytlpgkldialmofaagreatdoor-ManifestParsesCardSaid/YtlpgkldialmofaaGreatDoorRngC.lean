/- The contracts of semver.MayRange, semver.In, and of the document's own. -/
import Derived.Test.YtlpgkldialmofaaGreatDoorPrintV
import Derived.Test.YtlpgkldialmofaaGreatDoorRngL
namespace Go.Proofs.YtlpgkldialmofaaGreatDoor
open Go.RowKit
set_option linter.unusedSimpArgs false
set_option linter.unusedVariables false
def rng (a1 a2 a3 b1 b2 b3 : Int) : Array Value := #[.int .i64 a1, .int .i64 a2, .int .i64 a3, .int .i64 b1, .int .i64 b2, .int .i64 b3]
def rangeB (a1 a2 a3 b1 b2 b3 : Int) : Bool := mayB a1 a2 a3 && (mayB b1 b2 b3 && (decide (a1 = b1) && belowB a1 a2 a3 b1 b2 b3))
def inB (a1 a2 a3 b1 b2 b3 c1 c2 c3 : Int) : Bool := rangeB a1 a2 a3 b1 b2 b3 && (mayB c1 c2 c3 && (!belowB c1 c2 c3 a1 a2 a3 && belowB c1 c2 c3 b1 b2 b3))
theorem cells6 {w : World} {g : Nat} {T : TypeId} {x0 x1 x2 x3 x4 x5 : Value} (h : Blk w g #[x0, x1, x2, x3, x4, x5] T) :
    w.cell? ⟨g, 0, none⟩ = some x0 ∧ w.cell? ⟨g, 1, none⟩ = some x1 ∧ w.cell? ⟨g, 2, none⟩ = some x2 ∧ w.cell? ⟨g, 3, none⟩ = some x3 ∧ w.cell? ⟨g, 4, none⟩ = some x4 ∧ w.cell? ⟨g, 5, none⟩ = some x5 :=
  ⟨h.cell 0, h.cell 1, h.cell 2, h.cell 3, h.cell 4, h.cell 5⟩
theorem one_tri (x y : Int) : (x < y ∧ cmpI x y = -1) ∨ (x = y ∧ cmpI x y = 0) ∨ (y < x ∧ cmpI x y = 1) := by
  by_cases h : x < y
  · exact .inl ⟨h, by rw [cmpI, if_pos h]⟩
  · by_cases h' : y < x
    · exact .inr (.inr ⟨h', by rw [cmpI, if_neg h, if_pos h']⟩)
    · exact .inr (.inl ⟨by omega, by rw [cmpI, if_neg h, if_neg h']⟩)
theorem cmp_below (a1 a2 a3 b1 b2 b3 : Int) : decide (cmpV a1 a2 a3 b1 b2 b3 < 0) = belowB a1 a2 a3 b1 b2 b3 ∧ decide (0 < cmpV a1 a2 a3 b1 b2 b3) = belowB b1 b2 b3 a1 a2 a3 := by
  unfold cmpV
  rcases one_tri a1 b1 with ⟨h1, e1⟩ | ⟨h1, e1⟩ | ⟨h1, e1⟩
  · refine ⟨?_, ?_⟩ <;> (rw [e1]; unfold belowB; (repeat' split) <;> simp [orI] <;> omega)
  · rcases one_tri a2 b2 with ⟨h2, e2⟩ | ⟨h2, e2⟩ | ⟨h2, e2⟩
    · refine ⟨?_, ?_⟩ <;> (rw [e1, e2]; unfold belowB; (repeat' split) <;> simp [orI] <;> omega)
    · rcases one_tri a3 b3 with ⟨h3, e3⟩ | ⟨h3, e3⟩ | ⟨h3, e3⟩ <;> (refine ⟨?_, ?_⟩ <;> (rw [e1, e2, e3]; unfold belowB; (repeat' split) <;> simp [orI] <;> omega))
    · refine ⟨?_, ?_⟩ <;> (rw [e1, e2]; unfold belowB; (repeat' split) <;> simp [orI] <;> omega)
  · refine ⟨?_, ?_⟩ <;> (rw [e1]; unfold belowB; (repeat' split) <;> simp [orI] <;> omega)

set_option maxRecDepth 100000 in
set_option maxHeartbeats 4000000 in
theorem semRange_c (a1 a2 a3 b1 b2 b3 : Int) (w : World) : Calls Tryz.prog 37 #[.agg (rng a1 a2 a3 b1 b2 b3)] w fun e w' => e = .returned (.bool (rangeB a1 a2 a3 b1 b2 b3)) ∧ Below w.heap.size w w' := by
  obtain ⟨v, hv⟩ : ∃ v, rangeB a1 a2 a3 b1 b2 b3 = v := ⟨_, rfl⟩
  obtain ⟨m1, hm1⟩ : ∃ v, mayB a1 a2 a3 = v := ⟨_, rfl⟩
  obtain ⟨m2, hm2⟩ : ∃ v, mayB b1 b2 b3 = v := ⟨_, rfl⟩
  obtain ⟨bl, hbl⟩ : ∃ v, belowB a1 a2 a3 b1 b2 b3 = v := ⟨_, rfl⟩
  obtain ⟨cv, hcv⟩ : ∃ v, cmpV a1 a2 a3 b1 b2 b3 = v := ⟨_, rfl⟩
  have hcb := (cmp_below a1 a2 a3 b1 b2 b3).1
  have hval : v = (m1 && (m2 && (decide (a1 = b1) && bl))) := by rw [← hv, rangeB, hm1, hm2, hbl]
  rw [hcv, hbl] at hcb
  rw [hv]
  have C1 := fun w => semMay_c a1 a2 a3 w
  have C2 := fun w => semMay_c b1 b2 b3 w
  have C3 := fun w => cmp_c a1 a2 a3 b1 b2 b3 w
  simp only [hm1, ver] at C1
  simp only [hm2, ver] at C2
  simp only [hcv, ver] at C3
  have H1 := Lib.hid C1
  have H2 := Lib.hid C2
  have H3 := Lib.hid C3
  have HC := Lib.hid hcb
  clear C1 C2 C3 hv hm1 hm2 hbl hcv hcb
  go_enter Tryz.func37, Tryz.ntmps37
  simp only [rng]
  go_upto_region 1 with fail
  have x0 := Blk.new w #[.int .i64 a1, .int .i64 a2, .int .i64 a3, .int .i64 b1, .int .i64 b2, .int .i64 b3] 39
  have xb := (Below.refl w.heap.size w).alloc (Nat.le_refl _) (.cells #[.int .i64 a1, .int .i64 a2, .int .i64 a3, .int .i64 b1, .int .i64 b2, .int .i64 b3] 39)
  generalize (w.alloc (.cells #[.int .i64 a1, .int .i64 a2, .int .i64 a3, .int .i64 b1, .int .i64 b2, .int .i64 b3] 39)) = W at x0 xb ⊢
  have BX := Lib.hid x0
  have A0 := Lib.hid xb
  obtain ⟨k0, k1, k2, k3, k4, k5⟩ := cells6 x0
  have lk := x0.lt
  clear x0 xb

  by_cases he : a1 = b1
  · have heB : (a1 == b1) = true := by simp [he]
    have hval2 : v = (m1 && (m2 && bl)) := by rw [hval]; simp [he]
    clear hval he
    cases m1
    · go_wp2_with (first
      | (go_at_call 34; have h0 := A1; refine (H2.out _).mono ?_; rintro e w2 ⟨rfl, hb⟩; have A2 := Lib.hid (acc0 A1.out A1.out.size hb); have BX2 := Lib.hid (BX1.out.under hb BX1.out.lt); clear hb k0 k1 k2 k3 k4 k5 lk; obtain ⟨k0, k1, k2, k3, k4, k5⟩ := cells6 BX2.out; have lk := BX2.out.lt)
      | (go_at_call 34; refine (H1.out _).mono ?_; rintro e w1 ⟨rfl, hb⟩; have A1 := Lib.hid (acc0 A0.out A0.out.size hb); have BX1 := Lib.hid (BX.out.under hb BX.out.lt); clear hb k0 k1 k2 k3 k4 k5 lk; obtain ⟨k0, k1, k2, k3, k4, k5⟩ := cells6 BX1.out; have lk := BX1.out.lt)
      | (go_at_call 61; refine (H3.out _).mono ?_; rintro e w3 ⟨rfl, hb⟩; have A3 := Lib.hid (acc0 A2.out A2.out.size hb); have BX3 := Lib.hid (BX2.out.under hb BX2.out.lt); clear hb; clear k0 k1 k2 k3 k4 k5 lk; obtain ⟨k0, k1, k2, k3, k4, k5⟩ := cells6 BX3.out; have lk := BX3.out.lt))
      go_ret
      exact ⟨by rw [hval2]; rfl, A1.out⟩
    cases m2
    · go_wp2_with (first
      | (go_at_call 34; have h0 := A1; refine (H2.out _).mono ?_; rintro e w2 ⟨rfl, hb⟩; have A2 := Lib.hid (acc0 A1.out A1.out.size hb); have BX2 := Lib.hid (BX1.out.under hb BX1.out.lt); clear hb k0 k1 k2 k3 k4 k5 lk; obtain ⟨k0, k1, k2, k3, k4, k5⟩ := cells6 BX2.out; have lk := BX2.out.lt)
      | (go_at_call 34; refine (H1.out _).mono ?_; rintro e w1 ⟨rfl, hb⟩; have A1 := Lib.hid (acc0 A0.out A0.out.size hb); have BX1 := Lib.hid (BX.out.under hb BX.out.lt); clear hb k0 k1 k2 k3 k4 k5 lk; obtain ⟨k0, k1, k2, k3, k4, k5⟩ := cells6 BX1.out; have lk := BX1.out.lt)
      | (go_at_call 61; refine (H3.out _).mono ?_; rintro e w3 ⟨rfl, hb⟩; have A3 := Lib.hid (acc0 A2.out A2.out.size hb); have BX3 := Lib.hid (BX2.out.under hb BX2.out.lt); clear hb; clear k0 k1 k2 k3 k4 k5 lk; obtain ⟨k0, k1, k2, k3, k4, k5⟩ := cells6 BX3.out; have lk := BX3.out.lt))
      go_ret
      exact ⟨by rw [hval2]; rfl, A2.out⟩
    go_wp2_with (first
      | (go_at_call 34; have h0 := A1; refine (H2.out _).mono ?_; rintro e w2 ⟨rfl, hb⟩; have A2 := Lib.hid (acc0 A1.out A1.out.size hb); have BX2 := Lib.hid (BX1.out.under hb BX1.out.lt); clear hb k0 k1 k2 k3 k4 k5 lk; obtain ⟨k0, k1, k2, k3, k4, k5⟩ := cells6 BX2.out; have lk := BX2.out.lt)
      | (go_at_call 34; refine (H1.out _).mono ?_; rintro e w1 ⟨rfl, hb⟩; have A1 := Lib.hid (acc0 A0.out A0.out.size hb); have BX1 := Lib.hid (BX.out.under hb BX.out.lt); clear hb k0 k1 k2 k3 k4 k5 lk; obtain ⟨k0, k1, k2, k3, k4, k5⟩ := cells6 BX1.out; have lk := BX1.out.lt)
      | (go_at_call 61; refine (H3.out _).mono ?_; rintro e w3 ⟨rfl, hb⟩; have A3 := Lib.hid (acc0 A2.out A2.out.size hb); have BX3 := Lib.hid (BX2.out.under hb BX2.out.lt); clear hb; clear k0 k1 k2 k3 k4 k5 lk; obtain ⟨k0, k1, k2, k3, k4, k5⟩ := cells6 BX3.out; have lk := BX3.out.lt))
    go_ret
    exact ⟨by rw [hval2, ← HC.out]; rfl, A3.out⟩
  · have heB : (a1 == b1) = false := by simp [he]
    have hval2 : v = false := by rw [hval]; simp [he]
    clear hval he
    cases m1
    · go_wp2_with (first
      | (go_at_call 34; have h0 := A1; refine (H2.out _).mono ?_; rintro e w2 ⟨rfl, hb⟩; have A2 := Lib.hid (acc0 A1.out A1.out.size hb); have BX2 := Lib.hid (BX1.out.under hb BX1.out.lt); clear hb k0 k1 k2 k3 k4 k5 lk; obtain ⟨k0, k1, k2, k3, k4, k5⟩ := cells6 BX2.out; have lk := BX2.out.lt)
      | (go_at_call 34; refine (H1.out _).mono ?_; rintro e w1 ⟨rfl, hb⟩; have A1 := Lib.hid (acc0 A0.out A0.out.size hb); have BX1 := Lib.hid (BX.out.under hb BX.out.lt); clear hb k0 k1 k2 k3 k4 k5 lk; obtain ⟨k0, k1, k2, k3, k4, k5⟩ := cells6 BX1.out; have lk := BX1.out.lt)
      | (go_at_call 61; refine (H3.out _).mono ?_; rintro e w3 ⟨rfl, hb⟩; have A3 := Lib.hid (acc0 A2.out A2.out.size hb); have BX3 := Lib.hid (BX2.out.under hb BX2.out.lt); clear hb; clear k0 k1 k2 k3 k4 k5 lk; obtain ⟨k0, k1, k2, k3, k4, k5⟩ := cells6 BX3.out; have lk := BX3.out.lt))
      go_ret
      exact ⟨by rw [hval2]; rfl, A1.out⟩
    cases m2
    · go_wp2_with (first
      | (go_at_call 34; have h0 := A1; refine (H2.out _).mono ?_; rintro e w2 ⟨rfl, hb⟩; have A2 := Lib.hid (acc0 A1.out A1.out.size hb); have BX2 := Lib.hid (BX1.out.under hb BX1.out.lt); clear hb k0 k1 k2 k3 k4 k5 lk; obtain ⟨k0, k1, k2, k3, k4, k5⟩ := cells6 BX2.out; have lk := BX2.out.lt)
      | (go_at_call 34; refine (H1.out _).mono ?_; rintro e w1 ⟨rfl, hb⟩; have A1 := Lib.hid (acc0 A0.out A0.out.size hb); have BX1 := Lib.hid (BX.out.under hb BX.out.lt); clear hb k0 k1 k2 k3 k4 k5 lk; obtain ⟨k0, k1, k2, k3, k4, k5⟩ := cells6 BX1.out; have lk := BX1.out.lt)
      | (go_at_call 61; refine (H3.out _).mono ?_; rintro e w3 ⟨rfl, hb⟩; have A3 := Lib.hid (acc0 A2.out A2.out.size hb); have BX3 := Lib.hid (BX2.out.under hb BX2.out.lt); clear hb; clear k0 k1 k2 k3 k4 k5 lk; obtain ⟨k0, k1, k2, k3, k4, k5⟩ := cells6 BX3.out; have lk := BX3.out.lt))
      go_ret
      exact ⟨by rw [hval2]; rfl, A2.out⟩
    go_wp2_with (first
      | (go_at_call 34; have h0 := A1; refine (H2.out _).mono ?_; rintro e w2 ⟨rfl, hb⟩; have A2 := Lib.hid (acc0 A1.out A1.out.size hb); have BX2 := Lib.hid (BX1.out.under hb BX1.out.lt); clear hb k0 k1 k2 k3 k4 k5 lk; obtain ⟨k0, k1, k2, k3, k4, k5⟩ := cells6 BX2.out; have lk := BX2.out.lt)
      | (go_at_call 34; refine (H1.out _).mono ?_; rintro e w1 ⟨rfl, hb⟩; have A1 := Lib.hid (acc0 A0.out A0.out.size hb); have BX1 := Lib.hid (BX.out.under hb BX.out.lt); clear hb k0 k1 k2 k3 k4 k5 lk; obtain ⟨k0, k1, k2, k3, k4, k5⟩ := cells6 BX1.out; have lk := BX1.out.lt)
      | (go_at_call 61; refine (H3.out _).mono ?_; rintro e w3 ⟨rfl, hb⟩; have A3 := Lib.hid (acc0 A2.out A2.out.size hb); have BX3 := Lib.hid (BX2.out.under hb BX2.out.lt); clear hb; clear k0 k1 k2 k3 k4 k5 lk; obtain ⟨k0, k1, k2, k3, k4, k5⟩ := cells6 BX3.out; have lk := BX3.out.lt))
    go_ret
    exact ⟨by rw [hval2]; rfl, A2.out⟩
set_option maxRecDepth 100000 in
set_option maxHeartbeats 4000000 in
theorem refRange_c (a1 a2 a3 b1 b2 b3 : Int) (w : World) : Calls Tryz.prog 43 #[.agg (rng a1 a2 a3 b1 b2 b3)] w fun e w' => e = .returned (.bool (rangeB a1 a2 a3 b1 b2 b3)) ∧ Below w.heap.size w w' := by
  obtain ⟨v, hv⟩ : ∃ v, rangeB a1 a2 a3 b1 b2 b3 = v := ⟨_, rfl⟩
  obtain ⟨m1, hm1⟩ : ∃ v, mayB a1 a2 a3 = v := ⟨_, rfl⟩
  obtain ⟨m2, hm2⟩ : ∃ v, mayB b1 b2 b3 = v := ⟨_, rfl⟩
  obtain ⟨bl, hbl⟩ : ∃ v, belowB a1 a2 a3 b1 b2 b3 = v := ⟨_, rfl⟩
  obtain ⟨cv, hcv⟩ : ∃ v, cmpV a1 a2 a3 b1 b2 b3 = v := ⟨_, rfl⟩
  have hcb := (cmp_below a1 a2 a3 b1 b2 b3).1
  have hval : v = (m1 && (m2 && (decide (a1 = b1) && bl))) := by rw [← hv, rangeB, hm1, hm2, hbl]
  rw [hcv, hbl] at hcb
  rw [hv]
  have C1 := fun w => refMay_c a1 a2 a3 w
  have C2 := fun w => refMay_c b1 b2 b3 w
  have C3 := fun w => below_c a1 a2 a3 b1 b2 b3 w
  simp only [hm1, ver] at C1
  simp only [hm2, ver] at C2
  simp only [hbl, ver] at C3
  have H1 := Lib.hid C1
  have H2 := Lib.hid C2
  have H3 := Lib.hid C3
  have HC := Lib.hid hcb
  clear C1 C2 C3 hv hm1 hm2 hbl hcv hcb
  go_enter Tryz.func43, Tryz.ntmps43
  simp only [rng]
  go_upto_region 1 with fail
  have x0 := Blk.new w #[.int .i64 a1, .int .i64 a2, .int .i64 a3, .int .i64 b1, .int .i64 b2, .int .i64 b3] 39
  have xb := (Below.refl w.heap.size w).alloc (Nat.le_refl _) (.cells #[.int .i64 a1, .int .i64 a2, .int .i64 a3, .int .i64 b1, .int .i64 b2, .int .i64 b3] 39)
  generalize (w.alloc (.cells #[.int .i64 a1, .int .i64 a2, .int .i64 a3, .int .i64 b1, .int .i64 b2, .int .i64 b3] 39)) = W at x0 xb ⊢
  have BX := Lib.hid x0
  have A0 := Lib.hid xb
  obtain ⟨k0, k1, k2, k3, k4, k5⟩ := cells6 x0
  have lk := x0.lt
  clear x0 xb

  by_cases he : a1 = b1
  · have heB : (a1 == b1) = true := by simp [he]
    have hval2 : v = (m1 && (m2 && bl)) := by rw [hval]; simp [he]
    clear hval he
    cases m1
    · go_wp2_with (first
      | (go_at_call 40; have h0 := A1; refine (H2.out _).mono ?_; rintro e w2 ⟨rfl, hb⟩; have A2 := Lib.hid (acc0 A1.out A1.out.size hb); have BX2 := Lib.hid (BX1.out.under hb BX1.out.lt); clear hb k0 k1 k2 k3 k4 k5 lk; obtain ⟨k0, k1, k2, k3, k4, k5⟩ := cells6 BX2.out; have lk := BX2.out.lt)
      | (go_at_call 40; refine (H1.out _).mono ?_; rintro e w1 ⟨rfl, hb⟩; have A1 := Lib.hid (acc0 A0.out A0.out.size hb); have BX1 := Lib.hid (BX.out.under hb BX.out.lt); clear hb k0 k1 k2 k3 k4 k5 lk; obtain ⟨k0, k1, k2, k3, k4, k5⟩ := cells6 BX1.out; have lk := BX1.out.lt)
      | (go_at_call 65; refine (H3.out _).mono ?_; rintro e w3 ⟨rfl, hb⟩; have A3 := Lib.hid (acc0 A2.out A2.out.size hb); have BX3 := Lib.hid (BX2.out.under hb BX2.out.lt); clear hb; clear k0 k1 k2 k3 k4 k5 lk; obtain ⟨k0, k1, k2, k3, k4, k5⟩ := cells6 BX3.out; have lk := BX3.out.lt))
      go_ret
      exact ⟨by rw [hval2]; rfl, A2.out⟩
    cases m2
    · go_wp2_with (first
      | (go_at_call 40; have h0 := A1; refine (H2.out _).mono ?_; rintro e w2 ⟨rfl, hb⟩; have A2 := Lib.hid (acc0 A1.out A1.out.size hb); have BX2 := Lib.hid (BX1.out.under hb BX1.out.lt); clear hb k0 k1 k2 k3 k4 k5 lk; obtain ⟨k0, k1, k2, k3, k4, k5⟩ := cells6 BX2.out; have lk := BX2.out.lt)
      | (go_at_call 40; refine (H1.out _).mono ?_; rintro e w1 ⟨rfl, hb⟩; have A1 := Lib.hid (acc0 A0.out A0.out.size hb); have BX1 := Lib.hid (BX.out.under hb BX.out.lt); clear hb k0 k1 k2 k3 k4 k5 lk; obtain ⟨k0, k1, k2, k3, k4, k5⟩ := cells6 BX1.out; have lk := BX1.out.lt)
      | (go_at_call 65; refine (H3.out _).mono ?_; rintro e w3 ⟨rfl, hb⟩; have A3 := Lib.hid (acc0 A2.out A2.out.size hb); have BX3 := Lib.hid (BX2.out.under hb BX2.out.lt); clear hb; clear k0 k1 k2 k3 k4 k5 lk; obtain ⟨k0, k1, k2, k3, k4, k5⟩ := cells6 BX3.out; have lk := BX3.out.lt))
      go_ret
      exact ⟨by rw [hval2]; rfl, A2.out⟩
    go_wp2_with (first
      | (go_at_call 40; have h0 := A1; refine (H2.out _).mono ?_; rintro e w2 ⟨rfl, hb⟩; have A2 := Lib.hid (acc0 A1.out A1.out.size hb); have BX2 := Lib.hid (BX1.out.under hb BX1.out.lt); clear hb k0 k1 k2 k3 k4 k5 lk; obtain ⟨k0, k1, k2, k3, k4, k5⟩ := cells6 BX2.out; have lk := BX2.out.lt)
      | (go_at_call 40; refine (H1.out _).mono ?_; rintro e w1 ⟨rfl, hb⟩; have A1 := Lib.hid (acc0 A0.out A0.out.size hb); have BX1 := Lib.hid (BX.out.under hb BX.out.lt); clear hb k0 k1 k2 k3 k4 k5 lk; obtain ⟨k0, k1, k2, k3, k4, k5⟩ := cells6 BX1.out; have lk := BX1.out.lt)
      | (go_at_call 65; refine (H3.out _).mono ?_; rintro e w3 ⟨rfl, hb⟩; have A3 := Lib.hid (acc0 A2.out A2.out.size hb); have BX3 := Lib.hid (BX2.out.under hb BX2.out.lt); clear hb; clear k0 k1 k2 k3 k4 k5 lk; obtain ⟨k0, k1, k2, k3, k4, k5⟩ := cells6 BX3.out; have lk := BX3.out.lt))
    go_ret
    exact ⟨by rw [hval2]; rfl, A3.out⟩
  · have heB : (a1 == b1) = false := by simp [he]
    have hval2 : v = false := by rw [hval]; simp [he]
    clear hval he
    cases m1
    · go_wp2_with (first
      | (go_at_call 40; have h0 := A1; refine (H2.out _).mono ?_; rintro e w2 ⟨rfl, hb⟩; have A2 := Lib.hid (acc0 A1.out A1.out.size hb); have BX2 := Lib.hid (BX1.out.under hb BX1.out.lt); clear hb k0 k1 k2 k3 k4 k5 lk; obtain ⟨k0, k1, k2, k3, k4, k5⟩ := cells6 BX2.out; have lk := BX2.out.lt)
      | (go_at_call 40; refine (H1.out _).mono ?_; rintro e w1 ⟨rfl, hb⟩; have A1 := Lib.hid (acc0 A0.out A0.out.size hb); have BX1 := Lib.hid (BX.out.under hb BX.out.lt); clear hb k0 k1 k2 k3 k4 k5 lk; obtain ⟨k0, k1, k2, k3, k4, k5⟩ := cells6 BX1.out; have lk := BX1.out.lt)
      | (go_at_call 65; refine (H3.out _).mono ?_; rintro e w3 ⟨rfl, hb⟩; have A3 := Lib.hid (acc0 A2.out A2.out.size hb); have BX3 := Lib.hid (BX2.out.under hb BX2.out.lt); clear hb; clear k0 k1 k2 k3 k4 k5 lk; obtain ⟨k0, k1, k2, k3, k4, k5⟩ := cells6 BX3.out; have lk := BX3.out.lt))
      go_ret
      exact ⟨by rw [hval2]; rfl, A2.out⟩
    cases m2
    · go_wp2_with (first
      | (go_at_call 40; have h0 := A1; refine (H2.out _).mono ?_; rintro e w2 ⟨rfl, hb⟩; have A2 := Lib.hid (acc0 A1.out A1.out.size hb); have BX2 := Lib.hid (BX1.out.under hb BX1.out.lt); clear hb k0 k1 k2 k3 k4 k5 lk; obtain ⟨k0, k1, k2, k3, k4, k5⟩ := cells6 BX2.out; have lk := BX2.out.lt)
      | (go_at_call 40; refine (H1.out _).mono ?_; rintro e w1 ⟨rfl, hb⟩; have A1 := Lib.hid (acc0 A0.out A0.out.size hb); have BX1 := Lib.hid (BX.out.under hb BX.out.lt); clear hb k0 k1 k2 k3 k4 k5 lk; obtain ⟨k0, k1, k2, k3, k4, k5⟩ := cells6 BX1.out; have lk := BX1.out.lt)
      | (go_at_call 65; refine (H3.out _).mono ?_; rintro e w3 ⟨rfl, hb⟩; have A3 := Lib.hid (acc0 A2.out A2.out.size hb); have BX3 := Lib.hid (BX2.out.under hb BX2.out.lt); clear hb; clear k0 k1 k2 k3 k4 k5 lk; obtain ⟨k0, k1, k2, k3, k4, k5⟩ := cells6 BX3.out; have lk := BX3.out.lt))
      go_ret
      exact ⟨by rw [hval2]; rfl, A2.out⟩
    go_wp2_with (first
      | (go_at_call 40; have h0 := A1; refine (H2.out _).mono ?_; rintro e w2 ⟨rfl, hb⟩; have A2 := Lib.hid (acc0 A1.out A1.out.size hb); have BX2 := Lib.hid (BX1.out.under hb BX1.out.lt); clear hb k0 k1 k2 k3 k4 k5 lk; obtain ⟨k0, k1, k2, k3, k4, k5⟩ := cells6 BX2.out; have lk := BX2.out.lt)
      | (go_at_call 40; refine (H1.out _).mono ?_; rintro e w1 ⟨rfl, hb⟩; have A1 := Lib.hid (acc0 A0.out A0.out.size hb); have BX1 := Lib.hid (BX.out.under hb BX.out.lt); clear hb k0 k1 k2 k3 k4 k5 lk; obtain ⟨k0, k1, k2, k3, k4, k5⟩ := cells6 BX1.out; have lk := BX1.out.lt)
      | (go_at_call 65; refine (H3.out _).mono ?_; rintro e w3 ⟨rfl, hb⟩; have A3 := Lib.hid (acc0 A2.out A2.out.size hb); have BX3 := Lib.hid (BX2.out.under hb BX2.out.lt); clear hb; clear k0 k1 k2 k3 k4 k5 lk; obtain ⟨k0, k1, k2, k3, k4, k5⟩ := cells6 BX3.out; have lk := BX3.out.lt))
    go_ret
    exact ⟨by rw [hval2]; rfl, A2.out⟩
end Go.Proofs.YtlpgkldialmofaaGreatDoor
