/- The client that breaks: plain words. Plain Lean; no condition. -/
import Derived.Test.YtjeldfipipkfiaaGreatGOf
import Derived.Test.YtjeldfipipkfiaaGreatOneC
namespace Go.Proofs.YtjeldfipipkfiaaGreat
open Go.RowKit
set_option linter.unusedSimpArgs false
set_option linter.unusedVariables false
structure Brk where
  x : If
  c : Chg
  t : Ty
def bigC (l : List Chg) : Option Chg := l.find? bigB
def brkF (a b : List If) : Option Brk := (bigC (chgF a b)).map fun c => ⟨(firstIface a c.mod).getD zIf, c, ((look a c.mod c.ofType c.name).getD zNm).ty⟩
end Go.Proofs.YtjeldfipipkfiaaGreat
