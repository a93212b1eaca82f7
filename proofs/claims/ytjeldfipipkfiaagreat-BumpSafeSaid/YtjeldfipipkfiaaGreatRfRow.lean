/- The contracts of merlonref08.Of and of merlonref12.row; memory: a row of named types, a row of interfaces. -/
import Derived.Test.YtjeldfipipkfiaaGreatNamesF
namespace Go.Proofs.YtjeldfipipkfiaaGreat
open Go.RowKit
set_option linter.unusedSimpArgs false
set_option linter.unusedVariables false
def ofN (l : List Nm) (s : ByteArray) : Int := match l.findIdx? fun x => x.name.toList == s.toList with
  | some i => (i : Nat)
  | none => -1
def selF (x : If) (o : Bool) : List Nm := if o = true then x.types else x.vals
end Go.Proofs.YtjeldfipipkfiaaGreat
