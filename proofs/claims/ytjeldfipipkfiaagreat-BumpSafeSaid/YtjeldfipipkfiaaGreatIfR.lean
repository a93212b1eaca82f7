/- The contracts of merlonref10.named, of iface.May and of merlonref10.May; memory: a row of named types, an interface. -/
import Derived.Test.YtjeldfipipkfiaaGreatIfN
namespace Go.Proofs.YtjeldfipipkfiaaGreat
open Go.RowKit
set_option linter.unusedSimpArgs false
set_option linter.unusedVariables false
end Go.Proofs.YtjeldfipipkfiaaGreat
