/- strings.Join's contract in this seat's numbers. -/
import Derived.Test.YtlpgkldialmofaaGreatDoorShelfJ
import Derived.Test.YtlpgkldialmofaaGreatDoorBlkS
namespace Go.Proofs.YtlpgkldialmofaaGreatDoor
open Go.RowKit Go.Shelf
set_option linter.unusedVariables false
theorem join0_c (a : Option Addr) (c : Nat) (sep : ByteArray) (w : World) : Calls Tryz.prog 35 #[.slice a 0 c, .string sep] w fun e w' => e = .returned (.string ⟨#[]⟩) ∧ w' = w := Tryz.strings_Join_none a c sep w
theorem join_c (bk o c : Nat) (xs : List ByteArray) (sep : ByteArray) (w : World) (hcells : ∀ (j : Nat) x, xs[j]? = some x → w.cell? ⟨bk, o + j, none⟩ = some (.string x)) (hbk : bk < w.heap.size) (hN : xs.length ≤ 140737488355328) (hcap : xs.length ≤ c)
    (hlen : (Lib.join (xs.map (·.data.toList)) sep.data.toList).length ≤ 140737488355328) :
    Calls Tryz.prog 35 #[.slice (some ⟨bk, o, none⟩) xs.length c, .string sep] w fun e w' => e = .returned (.string ⟨(Lib.join (xs.map (·.data.toList)) sep.data.toList).toArray⟩) ∧ Below w.heap.size w w' :=
  Tryz.strings_Join bk o c xs sep w hcells hbk hN hcap hlen
end Go.Proofs.YtlpgkldialmofaaGreatDoor
