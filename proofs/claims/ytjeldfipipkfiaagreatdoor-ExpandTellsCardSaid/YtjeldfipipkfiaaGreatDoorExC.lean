/- What a type comes to: the codes. -/
import Derived.Test.YtjeldfipipkfiaaGreatDoorExE
namespace Go.Proofs.YtjeldfipipkfiaaGreatDoor
open Go.RowKit
set_option linter.unusedSimpArgs false
set_option linter.unusedVariables false
theorem ExpIs.codes {E : Env} {t y : Ty} {c : Int} (h : ExpIs E t c y) : c = 0 ∨ c = 1 ∨ c = 3 ∨ c = 4 ∨ c = 9 := by
  rcases h with ⟨-, h, -⟩ | ⟨-, -, h, -⟩ | ⟨-, -, -, h, -⟩ | ⟨-, -, -, x, -, ⟨-, h, -⟩ | ⟨-, h, -⟩⟩ <;> omega
theorem codeV_ne {c : Int} (h : c ≠ 0) : codeV c = .iface 70 (.int .i64 c) := by rw [codeV, if_neg h]
end Go.Proofs.YtjeldfipipkfiaaGreatDoor
