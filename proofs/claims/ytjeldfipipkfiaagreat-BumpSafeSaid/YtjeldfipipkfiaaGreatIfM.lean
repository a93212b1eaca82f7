/- The contracts of iface.May and of merlonref10.May; memory: an interface's cells. -/
import Derived.Test.YtjeldfipipkfiaaGreatIfR
namespace Go.Proofs.YtjeldfipipkfiaaGreat
open Go.RowKit
set_option linter.unusedSimpArgs false
set_option linter.unusedVariables false
def imayB (x : If) : Bool := smallB x.pkg && (smallB x.mod && (decide (1 ≤ x.major) && (decide (x.major ≤ 999999999) && (namedB greatB x.types && namedB smallB x.vals))))
theorem cells5 {w : World} {g : Nat} {T : TypeId} {x0 x1 x2 x3 x4 : Value} (h : Blk w g #[x0, x1, x2, x3, x4] T) :
    w.cell? ⟨g, 0, none⟩ = some x0 ∧ w.cell? ⟨g, 1, none⟩ = some x1 ∧ w.cell? ⟨g, 2, none⟩ = some x2 ∧ w.cell? ⟨g, 3, none⟩ = some x3 ∧ w.cell? ⟨g, 4, none⟩ = some x4 :=
  ⟨h.cell 0, h.cell 1, h.cell 2, h.cell 3, h.cell 4⟩
set_option maxRecDepth 100000 in
set_option maxHeartbeats 40000000 in
theorem ifMay_c (x : If) (ta : Option Addr) (tc : Nat) (va : Option Addr) (vc B : Nat) (w : World) (hf : IfFits x) (ht : NmsAt w B ta x.types) (hv : NmsAt w B va x.vals) (hB : B ≤ w.heap.size) :
    Calls Tryz.prog 12 #[.agg (ifCells x ta tc va vc)] w fun e w' => e = .returned (.bool (imayB x)) ∧ Below w.heap.size w w' := by
  have C1 := fun w => Small_c x.pkg w hf.pkg
  have C2 := fun w => Small_c x.mod w hf.mod
  have C3 := fun w h hB => namedGreat_c x.types ta tc B w h hB hf.types
  have C4 := fun w h hB => namedSmall_c x.vals va vc B w h hB hf.vals
  obtain ⟨s1, h1⟩ : ∃ s, smallB x.pkg = s := ⟨_, rfl⟩
  obtain ⟨s2, h2⟩ : ∃ s, smallB x.mod = s := ⟨_, rfl⟩
  obtain ⟨s3, h3⟩ : ∃ s, namedB greatB x.types = s := ⟨_, rfl⟩
  obtain ⟨s4, h4⟩ : ∃ s, namedB smallB x.vals = s := ⟨_, rfl⟩
  have hr : imayB x = (s1 && (s2 && (decide (1 ≤ x.major) && (decide (x.major ≤ 999999999) && (s3 && s4))))) := by rw [imayB, h1, h2, h3, h4]
  rw [hr]
  simp only [h1] at C1
  simp only [h2] at C2
  simp only [h3] at C3
  simp only [h4] at C4
  have H1 := Lib.hid C1
  have H2 := Lib.hid C2
  have H3 := Lib.hid C3
  have H4 := Lib.hid C4
  have HT := Lib.hid ht
  have HV := Lib.hid hv
  clear C1 C2 C3 C4 h1 h2 h3 h4 hr ht hv hf
  go_enter Tryz.func12, Tryz.ntmps12
  simp only [ifCells]
  go_upto_region 1 with fail
  have x0 := Lib.hid (Blk.new w #[.string x.pkg, .int .i64 x.major, .string x.mod, .slice ta x.types.length tc, .slice va x.vals.length vc] 33)
  have A0 := Lib.hid ((Below.refl w.heap.size w).alloc (Nat.le_refl _) (.cells #[.string x.pkg, .int .i64 x.major, .string x.mod, .slice ta x.types.length tc, .slice va x.vals.length vc] 33))
  generalize (w.alloc (.cells #[.string x.pkg, .int .i64 x.major, .string x.mod, .slice ta x.types.length tc, .slice va x.vals.length vc] 33)) = W at x0 A0 ⊢
  obtain ⟨k0, k1, k2, k3, k4⟩ := cells5 x0.out
  have lk := x0.out.lt
  have hmk : ∀ w1, Below W.heap.size W w1 → Below w.heap.size w w1 := fun w1 h => A0.out.trans (h.mono A0.out.size)
  have HMK := Lib.hid hmk
  clear hmk
  by_cases m1 : 1 ≤ x.major
  all_goals by_cases m2 : x.major ≤ 999999999
  all_goals try (exfalso; omega)
  all_goals
    cases s1 <;> cases s2 <;> cases s3
  all_goals
    go_wp2_with (first
      | (go_at_call 23; first
          | (have hno := A1; refine (H2.out _).mono ?_; rintro e w2 ⟨rfl, hb⟩; have A2 := Lib.hid (A1.out.trans (hb.mono A1.out.size)); clear hb k0 k1 k2 k3 k4 lk hno; obtain ⟨k0, k1, k2, k3, k4⟩ := cells5 (x0.out.under A2.out x0.out.lt); have lk := (x0.out.under A2.out x0.out.lt).lt)
          | (refine (H1.out _).mono ?_; rintro e w1 ⟨rfl, hb⟩; have A1 := Lib.hid hb; clear hb k0 k1 k2 k3 k4 lk; obtain ⟨k0, k1, k2, k3, k4⟩ := cells5 (x0.out.under A1.out x0.out.lt); have lk := (x0.out.under A1.out x0.out.lt).lt))
      | (go_at_call 29; first
          | (have hno := A3; refine (H4.out _ (HV.out.under ((HMK.out _ A3.out).mono hB)) (Nat.le_trans hB (HMK.out _ A3.out).size)).mono ?_; rintro e w4 ⟨rfl, hb⟩; have A4 := Lib.hid (A3.out.trans (hb.mono A3.out.size)); clear hb k0 k1 k2 k3 k4 lk hno)
          | (refine (H3.out _ (HT.out.under ((HMK.out _ A2.out).mono hB)) (Nat.le_trans hB (HMK.out _ A2.out).size)).mono ?_; rintro e w3 ⟨rfl, hb⟩; have A3 := Lib.hid (A2.out.trans (hb.mono A2.out.size)); clear hb k0 k1 k2 k3 k4 lk; obtain ⟨k0, k1, k2, k3, k4⟩ := cells5 (x0.out.under A3.out x0.out.lt); have lk := (x0.out.under A3.out x0.out.lt).lt)))
    all_goals
      go_ret
      first
      | (refine ⟨ret_b ?_, HMK.out _ A4.out⟩; first | (simp [m1, m2]; done) | (simp [m1, m2]; omega) | (simp; omega))
      | (refine ⟨ret_b ?_, HMK.out _ A3.out⟩; first | (simp [m1, m2]; done) | (simp [m1, m2]; omega) | (simp; omega))
      | (refine ⟨ret_b ?_, HMK.out _ A2.out⟩; first | (simp [m1, m2]; done) | (simp [m1, m2]; omega) | (simp; omega))
      | (refine ⟨ret_b ?_, HMK.out _ A1.out⟩; first | (simp [m1, m2]; done) | (simp [m1, m2]; omega) | (simp; omega))
end Go.Proofs.YtjeldfipipkfiaaGreat
