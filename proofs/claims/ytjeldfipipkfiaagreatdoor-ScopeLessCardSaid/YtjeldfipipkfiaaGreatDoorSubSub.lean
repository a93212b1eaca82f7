/- The contract of sub.Sub. -/
import Derived.Test.YtjeldfipipkfiaaGreatDoorSubBelow
namespace Go.Proofs.YtjeldfipipkfiaaGreatDoor
open Go.RowKit
set_option linter.unusedSimpArgs false
set_option linter.unusedVariables false
def SubB (a b : Ty) : Bool := PlainB a && (PlainB b && subF 32 a b)
theorem plain_may {t : Ty} (h : PlainB t = true) : mayT t = true := by
  rw [PlainB, Bool.and_eq_true] at h; exact h.1
theorem may_deep {t : Ty} (h : mayT t = true) : deepT t ≤ 32 := by
  rw [may_is, mayR] at h
  simp only [Bool.and_eq_true, decide_eq_true_eq] at h
  exact h.2
set_option maxHeartbeats 1000000 in
theorem Sub_c (a b : Ty) (cs cs' : Array Value) (B : Nat) (w : World) (ha : TyC w B a cs) (hb : TyC w B b cs') (hB : B ≤ w.heap.size) :
    Calls Tryz.prog 156 #[.agg cs, .agg cs'] w fun e w' => e = .returned (.bool (SubB a b)) ∧ Below w.heap.size w w' := by
  obtain ⟨na, nc, sa, sc, f, rfl, -⟩ := ha.inv
  obtain ⟨na', nc', sa', sc', f', rfl, -⟩ := hb.inv
  have HA := Lib.hid ha
  have HB := Lib.hid hb
  clear ha hb
  go_enter Tryz.func156, Tryz.ntmps156
  simp only [tyCells]
  go_wp2_with fail
  refine (Plain_c a _ B _ ((HA.out.alloc hB _).alloc (by simp; omega) _) (by simp; omega)).mono ?_
  rintro e w1 ⟨rfl, hb1⟩
  have hacc : Below w.heap.size w w1 := acc2 (Below.refl _ _) (Nat.le_refl _) hb1
  have hbx := (boxes _ _ _ _).1.under hb1
  have hby := (boxes _ _ _ _).2.under hb1
  have HX := Lib.hid hbx
  have HY := Lib.hid hby
  obtain ⟨hx1, hx2⟩ := hbx
  obtain ⟨hy1, hy2⟩ := hby
  cases h1 : PlainB a
  · go_wp2
    go_ret
    exact ⟨ret_b (by simp [SubB, h1]), hacc⟩
  · go_wp2_with fail
    refine (Plain_c b _ B _ (HB.out.under (hacc.mono hB)) (Nat.le_trans hB hacc.size)).mono ?_
    rintro e w2 ⟨rfl, hb2⟩
    have hacc := acc0 hacc hacc.size hb2
    obtain ⟨hx3, hx4⟩ := HX.out.under hb2
    obtain ⟨hy3, hy4⟩ := HY.out.under hb2
    cases h2 : PlainB b
    · go_wp2
      go_ret
      exact ⟨ret_b (by simp [SubB, h1, h2]), hacc⟩
    · go_wp2_with fail
      refine (below_c 32 a b _ _ B _ (HA.out.under (hacc.mono hB)) (HB.out.under (hacc.mono hB)) (Nat.le_trans hB hacc.size) (plain_may h1) (plain_may h2) (may_deep (plain_may h1)) (may_deep (plain_may h2))).mono ?_
      rintro e w3 ⟨rfl, hb3⟩
      go_wp2
      go_ret
      exact ⟨ret_b (by simp [SubB, h1, h2]), acc0 hacc hacc.size hb3⟩
end Go.Proofs.YtjeldfipipkfiaaGreatDoor
