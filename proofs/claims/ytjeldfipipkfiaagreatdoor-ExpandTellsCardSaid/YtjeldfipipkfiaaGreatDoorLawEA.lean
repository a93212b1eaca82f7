/- The statement ExpandParts: the law's walk. -/
import Derived.Test.YtjeldfipipkfiaaGreatDoorLawEP
import Derived.Test.YtjeldfipipkfiaaGreatDoorGErr
namespace Go.Proofs.YtjeldfipipkfiaaGreatDoor
open Go.RowKit
set_option linter.unusedSimpArgs false
set_option linter.unusedVariables false
theorem code_any (c : Int) (h : c = 0 ∨ c = 1 ∨ c = 3 ∨ c = 4 ∨ c = 9) (w : World) : Calls Tryz.prog 34 #[codeV c] w fun e w' => e = .returned (.int .i64 c) ∧ Below w.heap.size w w' := by
  by_cases h0 : c = 0
  · subst h0
    exact (codeNil_c w).mono fun e w' ⟨h1, h2⟩ => ⟨h1, h2 ▸ Below.refl _ _⟩
  · rw [codeV_ne h0]
    exact (codeN_c c (by omega) (by omega) w).mono fun e w' ⟨h1, h2⟩ => ⟨h1, h2 ▸ Below.refl _ _⟩
end Go.Proofs.YtjeldfipipkfiaaGreatDoor
