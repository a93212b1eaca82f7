/- The contracts of merlonref08.Of and of merlonref12.row; memory: a row of named types, a row of interfaces. -/
import Derived.Test.YtjeldfipipkfiaaGreatDoorNamesF
namespace Go.Proofs.YtjeldfipipkfiaaGreatDoor
open Go.RowKit
set_option linter.unusedSimpArgs false
set_option linter.unusedVariables false
def ofN (l : List Nm) (s : ByteArray) : Int := match l.findIdx? fun x => x.name.toList == s.toList with
  | some i => (i : Nat)
  | none => -1
theorem ofN_hit {l : List Nm} {s : ByteArray} {k : Nat} (hk : k < l.length) (h : ∀ i (h : i < l.length), i < k → (l[i].name.toList == s.toList) = false) (h2 : (l[k].name.toList == s.toList) = true) : ofN l s = (k : Nat) := by
  have : l.findIdx? (fun x => x.name.toList == s.toList) = some k := by
    rw [List.findIdx?_eq_some_iff_getElem]
    exact ⟨hk, h2, fun j hj => by simp [h j (by omega) hj]⟩
  rw [ofN, this]
theorem ofN_miss {l : List Nm} {s : ByteArray} (h : ∀ i (h : i < l.length), (l[i].name.toList == s.toList) = false) : ofN l s = -1 := by
  have : l.findIdx? (fun x => x.name.toList == s.toList) = none := by
    rw [List.findIdx?_eq_none_iff]
    intro x hx
    obtain ⟨i, hi, rfl⟩ := List.getElem_of_mem hx
    exact h i hi
  rw [ofN, this]
def selF (x : If) (o : Bool) : List Nm := if o = true then x.types else x.vals
end Go.Proofs.YtjeldfipipkfiaaGreatDoor
