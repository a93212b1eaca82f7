/-
  NARROWER THAN 'FOR EVERY INPUT', by the rows' own cells (each row's printed sentence says how): SubTells: loops · SubOrders: loops · SubLeast: loops · SubStays: loops · SubBounds: loops · BumpTells: loops · BumpOn: loops.
  DERIVED. THE GIVEN ROWS OF THIS SEAT. 7 by the template 'for every input the law returns true; each argument reads behind the call as it read before'; 0 by the template 'total and deterministic' (their statements: YtalpmjmifcofeaaTotals.lean).
  GIVEN WITH THE SEED: the statements are not yours to turn. If you find one false, say at which input.
  Laid BY PROGRAM, IN A SANDBOX (cutbox-rows.mjs): the forced cells as the released guide's own fill.sh prints them over the translation b07fc9e14bea1522… (all of the seat's roots in one cut). By AI agents, Wed Nov 11 2026. No macro, syntax, notation, axiom, sorry.
-/
import Derived.Test.YtalpmjmifcofeaaChecked
import GoSem.Claim
import GoSem.ClaimJoined
import GoSem.ClaimMapViews
import Derived.JoinedTies
import Derived.KernelRfl
namespace Go.Proofs.Ytalpmjmifcofeaa
/- THE CELL 'sum', in the pinned program and in every row, IS THE sha256 OF THE DUMP (.gsa) THAT YtalpmjmifcofeaaProg.lean LOADS. Nothing in Lean hashes anything: it is a label: what it is worth is what the hold of that sum in a sandbox is worth. -/
noncomputable def Try.pinned : Pinned := { name := "ytalpmjmifcofeaa", sum := "b07fc9e14bea15225d0b2cf79a129ec8ebd9cd385a2a7de0bb924bf8c69b53b1", checked := Try.checked }
namespace Rows
def none {H : Type} : Left H := { results := [], args := [] }

/-- 'merlonlaw09.SubTells': WHATEVER THE INPUT: true; the input reads as it did. -/
def subTellsSpec : ChangeSpec := { name := "subTells", fn := fun _ => fun
  | [d1, d2] => { results := [.lit (.bool true)], args := [d1, d2] }
  | _ => none }
def subTellsRow : OpenClaim := { program := "ytalpmjmifcofeaa", sum := "b07fc9e14bea15225d0b2cf79a129ec8ebd9cd385a2a7de0bb924bf8c69b53b1", func := "merlon/merlonlaw09.SubTells", spec := "subTells", unfollowed := true, recurses := true, loops := true, apart := false }
def SubTellsSaid : Prop := subTellsRow.holds Try.pinned (OpenSpec.ofChange subTellsSpec)

/-- ITS FALSE NEIGHBOUR: 'it returns false'. Refute it at one input. -/
def subTellsWrong : ChangeSpec := { name := "subTells", fn := fun _ => fun
  | [d1, d2] => { results := [.lit (.bool false)], args := [d1, d2] }
  | _ => none }
def SubTellsWrongFalsely : Prop := subTellsRow.holds Try.pinned (OpenSpec.ofChange subTellsWrong)

/-- 'merlonlaw09.SubOrders': WHATEVER THE INPUT: true; the input reads as it did. -/
def subOrdersSpec : ChangeSpec := { name := "subOrders", fn := fun _ => fun
  | [d1, d2, d3] => { results := [.lit (.bool true)], args := [d1, d2, d3] }
  | _ => none }
def subOrdersRow : OpenClaim := { program := "ytalpmjmifcofeaa", sum := "b07fc9e14bea15225d0b2cf79a129ec8ebd9cd385a2a7de0bb924bf8c69b53b1", func := "merlon/merlonlaw09.SubOrders", spec := "subOrders", unfollowed := true, recurses := true, loops := true, apart := false }
def SubOrdersSaid : Prop := subOrdersRow.holds Try.pinned (OpenSpec.ofChange subOrdersSpec)

/-- ITS FALSE NEIGHBOUR: 'it returns false'. Refute it at one input. -/
def subOrdersWrong : ChangeSpec := { name := "subOrders", fn := fun _ => fun
  | [d1, d2, d3] => { results := [.lit (.bool false)], args := [d1, d2, d3] }
  | _ => none }
def SubOrdersWrongFalsely : Prop := subOrdersRow.holds Try.pinned (OpenSpec.ofChange subOrdersWrong)

/-- 'merlonlaw09.SubLeast': WHATEVER THE INPUT: true; the input reads as it did. -/
def subLeastSpec : ChangeSpec := { name := "subLeast", fn := fun _ => fun
  | [d1, d2, d3] => { results := [.lit (.bool true)], args := [d1, d2, d3] }
  | _ => none }
def subLeastRow : OpenClaim := { program := "ytalpmjmifcofeaa", sum := "b07fc9e14bea15225d0b2cf79a129ec8ebd9cd385a2a7de0bb924bf8c69b53b1", func := "merlon/merlonlaw09.SubLeast", spec := "subLeast", unfollowed := true, recurses := true, loops := true, apart := false }
def SubLeastSaid : Prop := subLeastRow.holds Try.pinned (OpenSpec.ofChange subLeastSpec)

/-- ITS FALSE NEIGHBOUR: 'it returns false'. Refute it at one input. -/
def subLeastWrong : ChangeSpec := { name := "subLeast", fn := fun _ => fun
  | [d1, d2, d3] => { results := [.lit (.bool false)], args := [d1, d2, d3] }
  | _ => none }
def SubLeastWrongFalsely : Prop := subLeastRow.holds Try.pinned (OpenSpec.ofChange subLeastWrong)

/-- 'merlonlaw09.SubStays': WHATEVER THE INPUT: true; the input reads as it did. -/
def subStaysSpec : ChangeSpec := { name := "subStays", fn := fun _ => fun
  | [d1, d2] => { results := [.lit (.bool true)], args := [d1, d2] }
  | _ => none }
def subStaysRow : OpenClaim := { program := "ytalpmjmifcofeaa", sum := "b07fc9e14bea15225d0b2cf79a129ec8ebd9cd385a2a7de0bb924bf8c69b53b1", func := "merlon/merlonlaw09.SubStays", spec := "subStays", unfollowed := true, recurses := true, loops := true, apart := false }
def SubStaysSaid : Prop := subStaysRow.holds Try.pinned (OpenSpec.ofChange subStaysSpec)

/-- ITS FALSE NEIGHBOUR: 'it returns false'. Refute it at one input. -/
def subStaysWrong : ChangeSpec := { name := "subStays", fn := fun _ => fun
  | [d1, d2] => { results := [.lit (.bool false)], args := [d1, d2] }
  | _ => none }
def SubStaysWrongFalsely : Prop := subStaysRow.holds Try.pinned (OpenSpec.ofChange subStaysWrong)

/-- 'merlonlaw09.SubBounds': WHATEVER THE INPUT: true; the input reads as it did. -/
def subBoundsSpec : ChangeSpec := { name := "subBounds", fn := fun _ => fun
  | [d1, d2] => { results := [.lit (.bool true)], args := [d1, d2] }
  | _ => none }
def subBoundsRow : OpenClaim := { program := "ytalpmjmifcofeaa", sum := "b07fc9e14bea15225d0b2cf79a129ec8ebd9cd385a2a7de0bb924bf8c69b53b1", func := "merlon/merlonlaw09.SubBounds", spec := "subBounds", unfollowed := true, recurses := true, loops := true, apart := false }
def SubBoundsSaid : Prop := subBoundsRow.holds Try.pinned (OpenSpec.ofChange subBoundsSpec)

/-- ITS FALSE NEIGHBOUR: 'it returns false'. Refute it at one input. -/
def subBoundsWrong : ChangeSpec := { name := "subBounds", fn := fun _ => fun
  | [d1, d2] => { results := [.lit (.bool false)], args := [d1, d2] }
  | _ => none }
def SubBoundsWrongFalsely : Prop := subBoundsRow.holds Try.pinned (OpenSpec.ofChange subBoundsWrong)

/-- 'merlonlaw12.BumpTells': WHATEVER THE INPUT: true; the input reads as it did. -/
def bumpTellsSpec : ChangeSpec := { name := "bumpTells", fn := fun _ => fun
  | [d1, d2] => { results := [.lit (.bool true)], args := [d1, d2] }
  | _ => none }
def bumpTellsRow : OpenClaim := { program := "ytalpmjmifcofeaa", sum := "b07fc9e14bea15225d0b2cf79a129ec8ebd9cd385a2a7de0bb924bf8c69b53b1", func := "merlon/merlonlaw12.BumpTells", spec := "bumpTells", unfollowed := true, recurses := true, loops := true, apart := false }
def BumpTellsSaid : Prop := bumpTellsRow.holds Try.pinned (OpenSpec.ofChange bumpTellsSpec)

/-- ITS FALSE NEIGHBOUR: 'it returns false'. Refute it at one input. -/
def bumpTellsWrong : ChangeSpec := { name := "bumpTells", fn := fun _ => fun
  | [d1, d2] => { results := [.lit (.bool false)], args := [d1, d2] }
  | _ => none }
def BumpTellsWrongFalsely : Prop := bumpTellsRow.holds Try.pinned (OpenSpec.ofChange bumpTellsWrong)

/-- 'merlonlaw12.BumpOn': WHATEVER THE INPUT: true; the input reads as it did. -/
def bumpOnSpec : ChangeSpec := { name := "bumpOn", fn := fun _ => fun
  | [d1, d2, d3] => { results := [.lit (.bool true)], args := [d1, d2, d3] }
  | _ => none }
def bumpOnRow : OpenClaim := { program := "ytalpmjmifcofeaa", sum := "b07fc9e14bea15225d0b2cf79a129ec8ebd9cd385a2a7de0bb924bf8c69b53b1", func := "merlon/merlonlaw12.BumpOn", spec := "bumpOn", unfollowed := true, recurses := true, loops := true, apart := false }
def BumpOnSaid : Prop := bumpOnRow.holds Try.pinned (OpenSpec.ofChange bumpOnSpec)

/-- ITS FALSE NEIGHBOUR: 'it returns false'. Refute it at one input. -/
def bumpOnWrong : ChangeSpec := { name := "bumpOn", fn := fun _ => fun
  | [d1, d2, d3] => { results := [.lit (.bool false)], args := [d1, d2, d3] }
  | _ => none }
def BumpOnWrongFalsely : Prop := bumpOnRow.holds Try.pinned (OpenSpec.ofChange bumpOnWrong)

/- THE SECOND FORM. 'bulk': how many values and letters a reading holds, each counted each time it is reached (what is shared counts as often as it is met; a slice's spare places count too). A statement '..UptoSaid' is the law's where the arguments, and the package variables that the reading takes, are together of bulk at most 1048576: NARROWER than '..Said'. Prove '..Said' where nothing that the law and all that it calls make is longer than what came in: it says more and counts as full. Else prove '..UptoSaid'. A law counts once. -/
mutual
def uptoBulk {H : Type} : DataW H → Nat
  | .lit (.string bytes) => bytes.length + 1
  | .lit _ => 1
  | .nil => 1
  | .ptr d => uptoBulk d + 1
  | .slice elems spare => uptoBulkAll elems + uptoBulkAll spare + 1
  | .agg parts => uptoBulkAll parts + 1
  | .iface _ d => uptoBulk d + 1
  | .map entries => uptoBulkEntries entries + 1
  | .held _ => 1
def uptoBulkAll {H : Type} : List (DataW H) → Nat
  | [] => 0
  | d :: r => uptoBulk d + uptoBulkAll r
def uptoBulkEntries {H : Type} : List (Lit × DataW H) → Nat
  | [] => 0
  | x :: r => uptoBulkEntry x + uptoBulkEntries r
def uptoBulkEntry {H : Type} : Lit × DataW H → Nat
  | (.string bytes, d) => bytes.length + uptoBulk d + 1
  | (_, d) => uptoBulk d + 1
 end
def uptoSmall : (H : Type) → List (DataW H) → Bool := fun _ ds => decide (uptoBulkAll ds ≤ 1048576)
def OpenSpec.upto (s : _root_.Go.ChangeSpec) : _root_.Go.OpenSpec := { _root_.Go.OpenSpec.ofChange s with cond := some uptoSmall }

/-- 'merlonlaw09.SubTells', WHERE WHAT IT READS IS OF BULK AT MOST 1048576: true; the input reads as it did. -/
def subTellsUptoRow : OpenClaim := { program := "ytalpmjmifcofeaa", sum := "b07fc9e14bea15225d0b2cf79a129ec8ebd9cd385a2a7de0bb924bf8c69b53b1", func := "merlon/merlonlaw09.SubTells", spec := "subTells", unfollowed := true, recurses := true, loops := true, apart := false, narrowed := true }
def SubTellsUptoSaid : Prop := subTellsUptoRow.holds Try.pinned (OpenSpec.upto subTellsSpec)

/-- 'merlonlaw09.SubOrders', WHERE WHAT IT READS IS OF BULK AT MOST 1048576: true; the input reads as it did. -/
def subOrdersUptoRow : OpenClaim := { program := "ytalpmjmifcofeaa", sum := "b07fc9e14bea15225d0b2cf79a129ec8ebd9cd385a2a7de0bb924bf8c69b53b1", func := "merlon/merlonlaw09.SubOrders", spec := "subOrders", unfollowed := true, recurses := true, loops := true, apart := false, narrowed := true }
def SubOrdersUptoSaid : Prop := subOrdersUptoRow.holds Try.pinned (OpenSpec.upto subOrdersSpec)

/-- 'merlonlaw09.SubLeast', WHERE WHAT IT READS IS OF BULK AT MOST 1048576: true; the input reads as it did. -/
def subLeastUptoRow : OpenClaim := { program := "ytalpmjmifcofeaa", sum := "b07fc9e14bea15225d0b2cf79a129ec8ebd9cd385a2a7de0bb924bf8c69b53b1", func := "merlon/merlonlaw09.SubLeast", spec := "subLeast", unfollowed := true, recurses := true, loops := true, apart := false, narrowed := true }
def SubLeastUptoSaid : Prop := subLeastUptoRow.holds Try.pinned (OpenSpec.upto subLeastSpec)

/-- 'merlonlaw09.SubStays', WHERE WHAT IT READS IS OF BULK AT MOST 1048576: true; the input reads as it did. -/
def subStaysUptoRow : OpenClaim := { program := "ytalpmjmifcofeaa", sum := "b07fc9e14bea15225d0b2cf79a129ec8ebd9cd385a2a7de0bb924bf8c69b53b1", func := "merlon/merlonlaw09.SubStays", spec := "subStays", unfollowed := true, recurses := true, loops := true, apart := false, narrowed := true }
def SubStaysUptoSaid : Prop := subStaysUptoRow.holds Try.pinned (OpenSpec.upto subStaysSpec)

/-- 'merlonlaw09.SubBounds', WHERE WHAT IT READS IS OF BULK AT MOST 1048576: true; the input reads as it did. -/
def subBoundsUptoRow : OpenClaim := { program := "ytalpmjmifcofeaa", sum := "b07fc9e14bea15225d0b2cf79a129ec8ebd9cd385a2a7de0bb924bf8c69b53b1", func := "merlon/merlonlaw09.SubBounds", spec := "subBounds", unfollowed := true, recurses := true, loops := true, apart := false, narrowed := true }
def SubBoundsUptoSaid : Prop := subBoundsUptoRow.holds Try.pinned (OpenSpec.upto subBoundsSpec)

/-- 'merlonlaw12.BumpTells', WHERE WHAT IT READS IS OF BULK AT MOST 1048576: true; the input reads as it did. -/
def bumpTellsUptoRow : OpenClaim := { program := "ytalpmjmifcofeaa", sum := "b07fc9e14bea15225d0b2cf79a129ec8ebd9cd385a2a7de0bb924bf8c69b53b1", func := "merlon/merlonlaw12.BumpTells", spec := "bumpTells", unfollowed := true, recurses := true, loops := true, apart := false, narrowed := true }
def BumpTellsUptoSaid : Prop := bumpTellsUptoRow.holds Try.pinned (OpenSpec.upto bumpTellsSpec)

/-- 'merlonlaw12.BumpOn', WHERE WHAT IT READS IS OF BULK AT MOST 1048576: true; the input reads as it did. -/
def bumpOnUptoRow : OpenClaim := { program := "ytalpmjmifcofeaa", sum := "b07fc9e14bea15225d0b2cf79a129ec8ebd9cd385a2a7de0bb924bf8c69b53b1", func := "merlon/merlonlaw12.BumpOn", spec := "bumpOn", unfollowed := true, recurses := true, loops := true, apart := false, narrowed := true }
def BumpOnUptoSaid : Prop := bumpOnUptoRow.holds Try.pinned (OpenSpec.upto bumpOnSpec)

end Rows
end Go.Proofs.Ytalpmjmifcofeaa
