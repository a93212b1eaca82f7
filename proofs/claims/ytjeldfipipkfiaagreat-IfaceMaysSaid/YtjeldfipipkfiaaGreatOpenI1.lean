/- An argument of type api.Iface that reads as data reads as an interface. Plain Lean; no condition. -/
import Derived.Test.YtjeldfipipkfiaaGreatOpenAll
namespace Go.Proofs.YtjeldfipipkfiaaGreat
open Go.ChangeShapes Go.WideShapes Go.ChangeAt Go.RowKit Go.Deep
section
variable {H : Type} {enc : TypeId × Value → H} {w : World} {base : Nat} {spare : Nat → Bool} {held : Bool}
set_option linter.unusedSimpArgs false
set_option linter.unusedVariables false
set_option maxRecDepth 100000 in
theorem open_if {r : Reach} {b0 : Nat} {v : Value} {d : DataW H} {p : List MemPlace} (hv : Value.okWide Tryz.prog w r b0 33 v) (h : DataW.Trod enc Tryz.prog w base spare held 33 v d p) :
    ∃ (x : If) (cs : Array Value), v = .agg cs ∧ IfC w w.heap.size x cs := by
  obtain ⟨cs, rfl, hsz⟩ := okWide_struct Tryz.underlying33 hv
  obtain ⟨fuel, hf⟩ := h
  obtain ⟨t, ht⟩ := if_trod _ _ _ hf
  have e : (Value.agg cs).cells.toList = cs.toList := by simp [Value.cells]
  rw [e] at ht
  exact ⟨t, cs, rfl, by simpa using ht⟩
end
end Go.Proofs.YtjeldfipipkfiaaGreat
