/- The contract of merlonref07.Mentions: the names that a type mentions, rising. Printed by mkrmen.py. -/
import Derived.Test.YtjeldfipipkfiaaGreatDoorRfRch
import Derived.Test.YtjeldfipipkfiaaGreatDoorRchM
namespace Go.Proofs.YtjeldfipipkfiaaGreatDoor
open Go.RowKit
set_option linter.unusedSimpArgs false
set_option linter.unusedVariables false
set_option linter.unnecessarySimpa false
end Go.Proofs.YtjeldfipipkfiaaGreatDoor
