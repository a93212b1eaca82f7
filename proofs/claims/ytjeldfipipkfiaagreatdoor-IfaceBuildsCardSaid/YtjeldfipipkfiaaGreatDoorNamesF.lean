/- The contracts of bump.names and bump.find, at rows of named types and at rows of interfaces. -/
import Derived.Test.YtjeldfipipkfiaaGreatDoorCatK
import Derived.Test.YtjeldfipipkfiaaGreatDoorGShelf
import Derived.Deep.DeepCutAuto
import Derived.Deep.Cut
namespace Go.Proofs.YtjeldfipipkfiaaGreatDoor
open Go.RowKit
set_option linter.unusedSimpArgs false
set_option linter.unusedVariables false
def zNm : Nm := ⟨{ data := #[] }, .mk 0 { data := #[] } 0 { data := #[] } { data := #[] } [] []⟩
def zIf : If := ⟨{ data := #[] }, 0, { data := #[] }, [], []⟩
def firstNamed (l : List Nm) (s : ByteArray) : Option Nm := l.find? fun x => x.name.toList == s.toList
def firstIface (l : List If) (s : ByteArray) : Option If := l.find? fun x => x.mod.toList == s.toList
end Go.Proofs.YtjeldfipipkfiaaGreatDoor
