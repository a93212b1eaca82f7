/- The contract of merlonref12.one; memory: two rows of named types that are plain. -/
import Derived.Test.YtjeldfipipkfiaaGreatDoorRfRow
import Derived.Test.YtjeldfipipkfiaaGreatDoorRowsC
import Derived.Test.YtjeldfipipkfiaaGreatDoorIfN
namespace Go.Proofs.YtjeldfipipkfiaaGreatDoor
open Go.RowKit
set_option linter.unusedSimpArgs false
set_option linter.unusedVariables false
theorem ofN_some {l : List Nm} {s : ByteArray} {x : Nm} (h : firstNamed l s = some x) : ∃ k : Nat, ∃ hk : k < l.length, l[k] = x ∧ ofN l s = (k : Nat) := by
  obtain ⟨hx, i, hi, he, hall⟩ := List.find?_eq_some_iff_getElem.1 h
  refine ⟨i, hi, he, ofN_hit hi (fun j hj hji => ?_) (by rw [he]; exact hx)⟩
  have := hall j hji
  simpa using this
end Go.Proofs.YtjeldfipipkfiaaGreatDoor
