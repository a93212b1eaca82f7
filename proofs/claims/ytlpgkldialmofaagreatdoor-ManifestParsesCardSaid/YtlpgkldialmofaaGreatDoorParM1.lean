/- What manifest.Parse makes of a row of texts, in plain words; its first loop's relation. -/
import Derived.Test.YtlpgkldialmofaaGreatDoorPrintN
import Derived.Test.YtlpgkldialmofaaGreatDoorTokM
namespace Go.Proofs.YtlpgkldialmofaaGreatDoor
open Go.RowKit
set_option linter.unusedSimpArgs false
set_option linter.unusedVariables false
def kPkg : ByteArray := { data := #[112, 97, 99, 107, 97, 103, 101] }
def kVer : ByteArray := { data := #[118, 101, 114, 115, 105, 111, 110] }
def kDep : ByteArray := { data := #[100, 101, 112] }
/-- deps taken off texts, as long as there is one more -/
def depsF : Nat → Bool → List ByteArray → List Dp → Bool × List ByteArray × List Dp
  | 0, fine, r, acc => (fine, r, acc)
  | n + 1, fine, r, acc =>
    if fine = true then
      if (nextF (keyP kDep) r).1.2 = true then depsF n (depF (nextF (keyP kDep) r).2).2.2.1 (depF (nextF (keyP kDep) r).2).2.2.2 (acc ++ [((depF (nextF (keyP kDep) r).2).1, (depF (nextF (keyP kDep) r).2).2.1)])
      else (fine, r, acc)
    else (fine, r, acc)
/-- what stands behind the version -/
def headF (ts : List ByteArray) : Bool × ByteArray × List ByteArray :=
  ((nextF (keyP kPkg) ts).1.2 && (nextF (keyP kVer) (nextF Idn.smallB (nextF (keyP kPkg) ts).2).2).1.2, (nextF Idn.smallB (nextF (keyP kPkg) ts).2).1.1,
    if (nextF (keyP kPkg) ts).1.2 = true then (nextF (keyP kVer) (nextF Idn.smallB (nextF (keyP kPkg) ts).2).2).2 else (nextF Idn.smallB (nextF (keyP kPkg) ts).2).2)
/-- the manifest of a row of texts -/
def manF (ts : List ByteArray) : Option (ByteArray × (Int × Int × Int) × List Dp) :=
  let h := headF ts
  let d := depsF ts.length h.1 (h.2.2.drop 5) []
  if d.1 = true ∧ parE (catL (h.2.2.take 5)) = 0 ∧ d.2.1 = [] ∧ mayM h.2.1 (parV (catL (h.2.2.take 5))) d.2.2 = true then some (h.2.1, parV (catL (h.2.2.take 5)), d.2.2) else none
end Go.Proofs.YtlpgkldialmofaaGreatDoor
