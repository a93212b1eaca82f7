/- The client that breaks: plain words. Plain Lean; no condition. -/
import Derived.Test.YtjeldfipipkfiaaGreatDoorGOf
import Derived.Test.YtjeldfipipkfiaaGreatDoorOneC
namespace Go.Proofs.YtjeldfipipkfiaaGreatDoor
open Go.RowKit
set_option linter.unusedSimpArgs false
set_option linter.unusedVariables false
structure Brk where
  x : If
  c : Chg
  t : Ty
def bigC (l : List Chg) : Option Chg := l.find? bigB
def brkF (a b : List If) : Option Brk := (bigC (chgF a b)).map fun c => ⟨(firstIface a c.mod).getD zIf, c, ((look a c.mod c.ofType c.name).getD zNm).ty⟩
theorem big_had {a b : List If} {c : Chg} (h : bigC (chgF a b) = some c) : (c.kind = 1 ∨ c.kind = 2) ∧ ∃ x n, firstIface a c.mod = some x ∧ firstNamed (selF x c.ofType) c.name = some n ∧ look a c.mod c.ofType c.name = some n := by
  have hm := List.mem_of_find?_eq_some h
  have hb : bigB c = true := List.find?_some h
  have hk : c.kind = 1 ∨ c.kind = 2 := by simpa [bigB] using hb
  obtain ⟨-, hkk, -⟩ := chg_mem.1 hm
  refine ⟨hk, ?_⟩
  cases hl : look a c.mod c.ofType c.name with
  | none => rw [hl] at hkk; simp only [kindO] at hkk; omega
  | some n =>
    have hmod := look_mod (l := a) (m := c.mod) (n := c.name) (o := c.ofType) (by rw [hl]; rfl)
    rw [firstIface_mem] at hmod
    obtain ⟨x, hx⟩ := Option.isSome_iff_exists.1 hmod
    refine ⟨x, n, hx, ?_, rfl⟩
    rw [look, hx] at hl
    exact hl
end Go.Proofs.YtjeldfipipkfiaaGreatDoor
