/- The contract of merlonref12.one; memory: two rows of named types that are plain. -/
import Derived.Test.YtjeldfipipkfiaaGreatRfRow
import Derived.Test.YtjeldfipipkfiaaGreatRowsC
import Derived.Test.YtjeldfipipkfiaaGreatIfN
namespace Go.Proofs.YtjeldfipipkfiaaGreat
open Go.RowKit
set_option linter.unusedSimpArgs false
set_option linter.unusedVariables false
end Go.Proofs.YtjeldfipipkfiaaGreat
