/- The contract of merlonref14.Print; premise: the manifest may be. -/
import Derived.Test.YtlpgkldialmofaaGreatDoorPrintM
namespace Go.Proofs.YtlpgkldialmofaaGreatDoor
open Go.RowKit
set_option linter.unusedSimpArgs false
set_option linter.unusedVariables false
end Go.Proofs.YtlpgkldialmofaaGreatDoor
