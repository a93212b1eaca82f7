/-
  NARROWER THAN 'FOR EVERY INPUT', by the rows' own cells (each row's printed sentence says how): IfaceTurns: loops · IfaceMays: loops · BumpSafe: loops.
  DERIVED. THE GIVEN ROWS OF THIS SEAT. 3 by the template 'for every input the law returns true; each argument reads behind the call as it read before'; 0 by the template 'total and deterministic' (their statements: YtjeldfipipkfiaaGreatTotals.lean).
  GIVEN WITH THE SEED: the statements are not yours to turn. If you find one false, say at which input.
  Laid BY PROGRAM, IN A SANDBOX (cutbox-rows.mjs): the forced cells as the released guide's own fill.sh prints them over the translation e0ab02475a010773… (all of the seat's roots in one cut). By AI agents, Wed Nov 11 2026. No macro, syntax, notation, axiom, sorry.
-/
import Derived.Test.YtjeldfipipkfiaaGreatChecked
import GoSem.Claim
import GoSem.ClaimJoined
import GoSem.ClaimMapViews
import Derived.JoinedTies
import Derived.KernelRfl
namespace Go.Proofs.YtjeldfipipkfiaaGreat
/- THE CELL 'sum', in the pinned program and in every row, IS THE sha256 OF THE DUMP (.gsa) THAT YtjeldfipipkfiaaGreatProg.lean LOADS. Nothing in Lean hashes anything: it is a label: what it is worth is what the hold of that sum in a sandbox is worth. -/
noncomputable def Tryz.pinned : Pinned := { name := "ytjeldfipipkfiaagreat", sum := "e0ab02475a0107734d50d967bc20f4cac1ab51e3bb963a169d50844f1994b9c6", checked := Tryz.checked }
namespace Rows
def none {H : Type} : Left H := { results := [], args := [] }

/-- 'merlonlaw10.IfaceTurns': WHATEVER THE INPUT: true; the input reads as it did. -/
def ifaceTurnsSpec : ChangeSpec := { name := "ifaceTurns", fn := fun _ => fun
  | [d1, d2, d3, d4, d5] => { results := [.lit (.bool true)], args := [d1, d2, d3, d4, d5] }
  | _ => none }
def ifaceTurnsRow : OpenClaim := { program := "ytjeldfipipkfiaagreat", sum := "e0ab02475a0107734d50d967bc20f4cac1ab51e3bb963a169d50844f1994b9c6", func := "merlon/merlonlaw10.IfaceTurns", spec := "ifaceTurns", unfollowed := true, recurses := true, loops := true, apart := false }
def IfaceTurnsSaid : Prop := ifaceTurnsRow.holds Tryz.pinned (OpenSpec.ofChange ifaceTurnsSpec)

/-- ITS FALSE NEIGHBOUR: 'it returns false'. Refute it at one input. -/
def ifaceTurnsWrong : ChangeSpec := { name := "ifaceTurns", fn := fun _ => fun
  | [d1, d2, d3, d4, d5] => { results := [.lit (.bool false)], args := [d1, d2, d3, d4, d5] }
  | _ => none }
def IfaceTurnsWrongFalsely : Prop := ifaceTurnsRow.holds Tryz.pinned (OpenSpec.ofChange ifaceTurnsWrong)

/-- 'merlonlaw10.IfaceMays': WHATEVER THE INPUT: true; the input reads as it did. -/
def ifaceMaysSpec : ChangeSpec := { name := "ifaceMays", fn := fun _ => fun
  | [d1, d2] => { results := [.lit (.bool true)], args := [d1, d2] }
  | _ => none }
def ifaceMaysRow : OpenClaim := { program := "ytjeldfipipkfiaagreat", sum := "e0ab02475a0107734d50d967bc20f4cac1ab51e3bb963a169d50844f1994b9c6", func := "merlon/merlonlaw10.IfaceMays", spec := "ifaceMays", unfollowed := true, recurses := true, loops := true, apart := false }
def IfaceMaysSaid : Prop := ifaceMaysRow.holds Tryz.pinned (OpenSpec.ofChange ifaceMaysSpec)

/-- ITS FALSE NEIGHBOUR: 'it returns false'. Refute it at one input. -/
def ifaceMaysWrong : ChangeSpec := { name := "ifaceMays", fn := fun _ => fun
  | [d1, d2] => { results := [.lit (.bool false)], args := [d1, d2] }
  | _ => none }
def IfaceMaysWrongFalsely : Prop := ifaceMaysRow.holds Tryz.pinned (OpenSpec.ofChange ifaceMaysWrong)

/-- 'merlonlaw12.BumpSafe': WHATEVER THE INPUT: true; the input reads as it did. -/
def bumpSafeSpec : ChangeSpec := { name := "bumpSafe", fn := fun _ => fun
  | [d1, d2, d3, d4] => { results := [.lit (.bool true)], args := [d1, d2, d3, d4] }
  | _ => none }
def bumpSafeRow : OpenClaim := { program := "ytjeldfipipkfiaagreat", sum := "e0ab02475a0107734d50d967bc20f4cac1ab51e3bb963a169d50844f1994b9c6", func := "merlon/merlonlaw12.BumpSafe", spec := "bumpSafe", unfollowed := true, recurses := true, loops := true, apart := false }
def BumpSafeSaid : Prop := bumpSafeRow.holds Tryz.pinned (OpenSpec.ofChange bumpSafeSpec)

/-- ITS FALSE NEIGHBOUR: 'it returns false'. Refute it at one input. -/
def bumpSafeWrong : ChangeSpec := { name := "bumpSafe", fn := fun _ => fun
  | [d1, d2, d3, d4] => { results := [.lit (.bool false)], args := [d1, d2, d3, d4] }
  | _ => none }
def BumpSafeWrongFalsely : Prop := bumpSafeRow.holds Tryz.pinned (OpenSpec.ofChange bumpSafeWrong)

/- THE SECOND FORM. 'bulk': how many values and letters a reading holds, each counted each time it is reached (what is shared counts as often as it is met; a slice's spare places count too). A statement '..UptoSaid' is the law's where the arguments, and the package variables that the reading takes, are together of bulk at most 1048576: NARROWER than '..Said'. Prove '..Said' where nothing that the law and all that it calls make is longer than what came in: it says more and counts as full. Else prove '..UptoSaid'. A law counts once. -/
mutual
def uptoBulk {H : Type} : DataW H → Nat
  | .lit (.string bytes) => bytes.length + 1
  | .lit _ => 1
  | .nil => 1
  | .ptr d => uptoBulk d + 1
  | .slice elems spare => uptoBulkAll elems + uptoBulkAll spare + 1
  | .agg parts => uptoBulkAll parts + 1
  | .iface _ d => uptoBulk d + 1
  | .map entries => uptoBulkEntries entries + 1
  | .held _ => 1
def uptoBulkAll {H : Type} : List (DataW H) → Nat
  | [] => 0
  | d :: r => uptoBulk d + uptoBulkAll r
def uptoBulkEntries {H : Type} : List (Lit × DataW H) → Nat
  | [] => 0
  | x :: r => uptoBulkEntry x + uptoBulkEntries r
def uptoBulkEntry {H : Type} : Lit × DataW H → Nat
  | (.string bytes, d) => bytes.length + uptoBulk d + 1
  | (_, d) => uptoBulk d + 1
 end
def uptoSmall : (H : Type) → List (DataW H) → Bool := fun _ ds => decide (uptoBulkAll ds ≤ 1048576)
def OpenSpec.upto (s : _root_.Go.ChangeSpec) : _root_.Go.OpenSpec := { _root_.Go.OpenSpec.ofChange s with cond := some uptoSmall }

/-- 'merlonlaw10.IfaceTurns', WHERE WHAT IT READS IS OF BULK AT MOST 1048576: true; the input reads as it did. -/
def ifaceTurnsUptoRow : OpenClaim := { program := "ytjeldfipipkfiaagreat", sum := "e0ab02475a0107734d50d967bc20f4cac1ab51e3bb963a169d50844f1994b9c6", func := "merlon/merlonlaw10.IfaceTurns", spec := "ifaceTurns", unfollowed := true, recurses := true, loops := true, apart := false, narrowed := true }
def IfaceTurnsUptoSaid : Prop := ifaceTurnsUptoRow.holds Tryz.pinned (OpenSpec.upto ifaceTurnsSpec)

/-- 'merlonlaw10.IfaceMays', WHERE WHAT IT READS IS OF BULK AT MOST 1048576: true; the input reads as it did. -/
def ifaceMaysUptoRow : OpenClaim := { program := "ytjeldfipipkfiaagreat", sum := "e0ab02475a0107734d50d967bc20f4cac1ab51e3bb963a169d50844f1994b9c6", func := "merlon/merlonlaw10.IfaceMays", spec := "ifaceMays", unfollowed := true, recurses := true, loops := true, apart := false, narrowed := true }
def IfaceMaysUptoSaid : Prop := ifaceMaysUptoRow.holds Tryz.pinned (OpenSpec.upto ifaceMaysSpec)

/-- 'merlonlaw12.BumpSafe', WHERE WHAT IT READS IS OF BULK AT MOST 1048576: true; the input reads as it did. -/
def bumpSafeUptoRow : OpenClaim := { program := "ytjeldfipipkfiaagreat", sum := "e0ab02475a0107734d50d967bc20f4cac1ab51e3bb963a169d50844f1994b9c6", func := "merlon/merlonlaw12.BumpSafe", spec := "bumpSafe", unfollowed := true, recurses := true, loops := true, apart := false, narrowed := true }
def BumpSafeUptoSaid : Prop := bumpSafeUptoRow.holds Tryz.pinned (OpenSpec.upto bumpSafeSpec)

end Rows
end Go.Proofs.YtjeldfipipkfiaaGreat
