/- The contract of semver.Next. -/
import Derived.Test.YtlpgkldialmofaaGreatDoorSem
namespace Go.Proofs.YtlpgkldialmofaaGreatDoor
open Go.RowKit
set_option linter.unusedSimpArgs false
set_option linter.unusedVariables false
def stepV (a b c s : Int) : Int × Int × Int := if s = 1 then (a, b, c + 1) else if s = 2 then (a, b + 1, 0) else (a + 1, 0, 0)
def nextE (a b c s : Int) : Int := if mayB a b c = false ∨ s < 1 ∨ 3 < s then 1 else if mayB (stepV a b c s).1 (stepV a b c s).2.1 (stepV a b c s).2.2 = true then 0 else 3
def nextV (a b c s : Int) : Int × Int × Int := if nextE a b c s = 0 then stepV a b c s else (0, 0, 0)
def errV (k : Int) : Value := if k = 0 then .nilIface else .iface 32 (.int .i64 k)
theorem may_bounds {a b c : Int} (h : mayB a b c = true) : (1 ≤ a ∧ a ≤ 999999999) ∧ (0 ≤ b ∧ b ≤ 999999999) ∧ (0 ≤ c ∧ c ≤ 999999999) := by
  simp [mayB, partB] at h
  omega
theorem put3_full {w : World} {g : Nat} {T : TypeId} {a0 a1 a2 : Value} (v0 v1 v2 : Value) (h : Blk w g #[a0, a1, a2] T) : Blk (((w.setCell ⟨g, 0, none⟩ v0).setCell ⟨g, 1, none⟩ v1).setCell ⟨g, 2, none⟩ v2) g #[v0, v1, v2] T := by
  have := ((h.set 0 v0).set 1 v1).set 2 v2
  simpa using this
theorem put3_bel {w w1 : World} {B g : Nat} (v0 v1 v2 : Value) (h : Below B w w1) (hg : B ≤ g) : Below B w (((w1.setCell ⟨g, 0, none⟩ v0).setCell ⟨g, 1, none⟩ v1).setCell ⟨g, 2, none⟩ v2) :=
  ((h.setCell (p := ⟨g, 0, none⟩) hg v0).setCell (p := ⟨g, 1, none⟩) hg v1).setCell (p := ⟨g, 2, none⟩) hg v2
end Go.Proofs.YtlpgkldialmofaaGreatDoor
