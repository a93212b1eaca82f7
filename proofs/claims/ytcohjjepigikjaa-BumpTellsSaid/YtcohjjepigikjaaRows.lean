/-
  NARROWER THAN 'FOR EVERY INPUT', by the rows' own cells (each row's printed sentence says how): BumpTells: loops · BumpOn: loops.
  DERIVED. THE GIVEN ROWS OF THIS SEAT. 2 by the template 'for every input the law returns true; each argument reads behind the call as it read before'; 0 by the template 'total and deterministic' (their statements: YtcohjjepigikjaaTotals.lean).
  GIVEN WITH THE SEED: the statements are not yours to turn. If you find one false, say at which input.
  Laid BY PROGRAM, IN A SANDBOX (cutbox-rows.mjs): the forced cells as the released guide's own fill.sh prints them over the translation b5747f8d082e1e23… (all of the seat's roots in one cut). By AI agents, Wed Nov 11 2026. No macro, syntax, notation, axiom, sorry.
-/
import Derived.Test.YtcohjjepigikjaaChecked
import GoSem.Claim
import GoSem.ClaimJoined
import GoSem.ClaimMapViews
import Derived.JoinedTies
import Derived.KernelRfl
namespace Go.Proofs.Ytcohjjepigikjaa
/- THE CELL 'sum', in the pinned program and in every row, IS THE sha256 OF THE DUMP (.gsa) THAT YtcohjjepigikjaaProg.lean LOADS. Nothing in Lean hashes anything: it is a label: what it is worth is what the hold of that sum in a sandbox is worth. -/
noncomputable def Try.pinned : Pinned := { name := "ytcohjjepigikjaa", sum := "b5747f8d082e1e23fcc001499941f231a2e20115fd03bfec40f7848672b956bf", checked := Try.checked }
namespace Rows
def none {H : Type} : Left H := { results := [], args := [] }

/-- 'merlonlaw12.BumpTells': WHATEVER THE INPUT: true; the input reads as it did. -/
def bumpTellsSpec : ChangeSpec := { name := "bumpTells", fn := fun _ => fun
  | [d1, d2] => { results := [.lit (.bool true)], args := [d1, d2] }
  | _ => none }
def bumpTellsRow : OpenClaim := { program := "ytcohjjepigikjaa", sum := "b5747f8d082e1e23fcc001499941f231a2e20115fd03bfec40f7848672b956bf", func := "merlon/merlonlaw12.BumpTells", spec := "bumpTells", unfollowed := true, recurses := true, loops := true, apart := false }
def BumpTellsSaid : Prop := bumpTellsRow.holds Try.pinned (OpenSpec.ofChange bumpTellsSpec)

/-- ITS FALSE NEIGHBOUR: 'it returns false'. Refute it at one input. -/
def bumpTellsWrong : ChangeSpec := { name := "bumpTells", fn := fun _ => fun
  | [d1, d2] => { results := [.lit (.bool false)], args := [d1, d2] }
  | _ => none }
def BumpTellsWrongFalsely : Prop := bumpTellsRow.holds Try.pinned (OpenSpec.ofChange bumpTellsWrong)

/-- 'merlonlaw12.BumpOn': WHATEVER THE INPUT: true; the input reads as it did. -/
def bumpOnSpec : ChangeSpec := { name := "bumpOn", fn := fun _ => fun
  | [d1, d2, d3] => { results := [.lit (.bool true)], args := [d1, d2, d3] }
  | _ => none }
def bumpOnRow : OpenClaim := { program := "ytcohjjepigikjaa", sum := "b5747f8d082e1e23fcc001499941f231a2e20115fd03bfec40f7848672b956bf", func := "merlon/merlonlaw12.BumpOn", spec := "bumpOn", unfollowed := true, recurses := true, loops := true, apart := false }
def BumpOnSaid : Prop := bumpOnRow.holds Try.pinned (OpenSpec.ofChange bumpOnSpec)

/-- ITS FALSE NEIGHBOUR: 'it returns false'. Refute it at one input. -/
def bumpOnWrong : ChangeSpec := { name := "bumpOn", fn := fun _ => fun
  | [d1, d2, d3] => { results := [.lit (.bool false)], args := [d1, d2, d3] }
  | _ => none }
def BumpOnWrongFalsely : Prop := bumpOnRow.holds Try.pinned (OpenSpec.ofChange bumpOnWrong)

/- THE SECOND FORM. 'bulk': how many values and letters a reading holds, each counted each time it is reached (what is shared counts as often as it is met; a slice's spare places count too). A statement '..UptoSaid' is the law's where the arguments, and the package variables that the reading takes, are together of bulk at most 1048576: NARROWER than '..Said'. Prove '..Said' where nothing that the law and all that it calls make is longer than what came in: it says more and counts as full. Else prove '..UptoSaid'. A law counts once. -/
mutual
def uptoBulk {H : Type} : DataW H → Nat
  | .lit (.string bytes) => bytes.length + 1
  | .lit _ => 1
  | .nil => 1
  | .ptr d => uptoBulk d + 1
  | .slice elems spare => uptoBulkAll elems + uptoBulkAll spare + 1
  | .agg parts => uptoBulkAll parts + 1
  | .iface _ d => uptoBulk d + 1
  | .map entries => uptoBulkEntries entries + 1
  | .held _ => 1
def uptoBulkAll {H : Type} : List (DataW H) → Nat
  | [] => 0
  | d :: r => uptoBulk d + uptoBulkAll r
def uptoBulkEntries {H : Type} : List (Lit × DataW H) → Nat
  | [] => 0
  | x :: r => uptoBulkEntry x + uptoBulkEntries r
def uptoBulkEntry {H : Type} : Lit × DataW H → Nat
  | (.string bytes, d) => bytes.length + uptoBulk d + 1
  | (_, d) => uptoBulk d + 1
 end
def uptoSmall : (H : Type) → List (DataW H) → Bool := fun _ ds => decide (uptoBulkAll ds ≤ 1048576)
def OpenSpec.upto (s : _root_.Go.ChangeSpec) : _root_.Go.OpenSpec := { _root_.Go.OpenSpec.ofChange s with cond := some uptoSmall }

/-- 'merlonlaw12.BumpTells', WHERE WHAT IT READS IS OF BULK AT MOST 1048576: true; the input reads as it did. -/
def bumpTellsUptoRow : OpenClaim := { program := "ytcohjjepigikjaa", sum := "b5747f8d082e1e23fcc001499941f231a2e20115fd03bfec40f7848672b956bf", func := "merlon/merlonlaw12.BumpTells", spec := "bumpTells", unfollowed := true, recurses := true, loops := true, apart := false, narrowed := true }
def BumpTellsUptoSaid : Prop := bumpTellsUptoRow.holds Try.pinned (OpenSpec.upto bumpTellsSpec)

/-- 'merlonlaw12.BumpOn', WHERE WHAT IT READS IS OF BULK AT MOST 1048576: true; the input reads as it did. -/
def bumpOnUptoRow : OpenClaim := { program := "ytcohjjepigikjaa", sum := "b5747f8d082e1e23fcc001499941f231a2e20115fd03bfec40f7848672b956bf", func := "merlon/merlonlaw12.BumpOn", spec := "bumpOn", unfollowed := true, recurses := true, loops := true, apart := false, narrowed := true }
def BumpOnUptoSaid : Prop := bumpOnUptoRow.holds Try.pinned (OpenSpec.upto bumpOnSpec)

end Rows
end Go.Proofs.Ytcohjjepigikjaa
