/-
  NARROWER THAN 'FOR EVERY INPUT', by the rows' own cells (each row's printed sentence says how): ScopeChecks: loops, laid · ScopeTurns: loops, laid · ScopeLess: loops, laid · ExpandTells: loops, laid · ExpandPlain: loops, laid · ExpandParts: loops, laid · IfaceBuilds: loops, laid · WitnessExact: loops, laid · WitnessAlike: loops, laid.
  DERIVED. THE GIVEN ROWS OF THIS SEAT. 9 by the template 'for every input the law returns true; each argument reads behind the call as it read before'; 0 by the template 'total and deterministic' (their statements: YtjeldfipipkfiaaGreatDoorTotals.lean).
  GIVEN WITH THE SEED: the statements are not yours to turn. If you find one false, say at which input.
  Laid BY PROGRAM, IN A SANDBOX (cutbox-rows.mjs): the forced cells as the released guide's own fill.sh prints them over the translation 6224fcbac2322dda… (all of the seat's roots in one cut). By AI agents, Wed Nov 11 2026. No macro, syntax, notation, axiom, sorry.
-/
import Derived.Test.YtjeldfipipkfiaaGreatDoorChecked
import GoSem.Claim
import GoSem.ClaimJoined
import GoSem.ClaimMapViews
import Derived.JoinedTies
import Derived.KernelRfl
namespace Go.Proofs.YtjeldfipipkfiaaGreatDoor
/- THE CELL 'sum', in the pinned program and in every row, IS THE sha256 OF THE DUMP (.gsa) THAT YtjeldfipipkfiaaGreatDoorProg.lean LOADS. Nothing in Lean hashes anything: it is a label: what it is worth is what the hold of that sum in a sandbox is worth. -/
noncomputable def Tryz.pinned : Pinned := { name := "ytjeldfipipkfiaagreatdoor", sum := "6224fcbac2322ddaabdc80b30f5d1d63ac38e3ff9790a71ee04b6b0f329b4ba7", checked := Tryz.checked }
namespace Rows
def none {H : Type} : Left H := { results := [], args := [] }

/- WHAT THE LISTED PACKAGE-LEVEL VARIABLES READ AS WHEN THE CALL BEGINS. Each datum BY PROGRAM (the guide's laid-datum.mjs) off the statement by which the dump's own 'gosem.cut.vars' lays the variable. In a bare row this is a premise. The card (YtjeldfipipkfiaaGreatDoorCards.lean) ties it to the program's text. -/
def laid_errors_errorType {H : Type} : DataW H := .iface "internal/reflectlite.rtype" (.agg [.ptr (.lit (.string [101, 114, 114, 111, 114]))])
def laid_math_bits_deBruijn32tab {H : Type} : DataW H := .agg [.lit (.int .u8 0), .lit (.int .u8 1), .lit (.int .u8 28), .lit (.int .u8 2), .lit (.int .u8 29), .lit (.int .u8 14), .lit (.int .u8 24), .lit (.int .u8 3), .lit (.int .u8 30), .lit (.int .u8 22), .lit (.int .u8 20), .lit (.int .u8 15), .lit (.int .u8 25), .lit (.int .u8 17), .lit (.int .u8 4), .lit (.int .u8 8), .lit (.int .u8 31), .lit (.int .u8 27), .lit (.int .u8 13), .lit (.int .u8 23), .lit (.int .u8 21), .lit (.int .u8 19), .lit (.int .u8 16), .lit (.int .u8 7), .lit (.int .u8 26), .lit (.int .u8 12), .lit (.int .u8 18), .lit (.int .u8 6), .lit (.int .u8 11), .lit (.int .u8 5), .lit (.int .u8 10), .lit (.int .u8 9)]
def laid_math_bits_deBruijn64tab {H : Type} : DataW H := .agg [.lit (.int .u8 0), .lit (.int .u8 1), .lit (.int .u8 56), .lit (.int .u8 2), .lit (.int .u8 57), .lit (.int .u8 49), .lit (.int .u8 28), .lit (.int .u8 3), .lit (.int .u8 61), .lit (.int .u8 58), .lit (.int .u8 42), .lit (.int .u8 50), .lit (.int .u8 38), .lit (.int .u8 29), .lit (.int .u8 17), .lit (.int .u8 4), .lit (.int .u8 62), .lit (.int .u8 47), .lit (.int .u8 59), .lit (.int .u8 36), .lit (.int .u8 45), .lit (.int .u8 43), .lit (.int .u8 51), .lit (.int .u8 22), .lit (.int .u8 53), .lit (.int .u8 39), .lit (.int .u8 33), .lit (.int .u8 30), .lit (.int .u8 24), .lit (.int .u8 18), .lit (.int .u8 12), .lit (.int .u8 5), .lit (.int .u8 63), .lit (.int .u8 55), .lit (.int .u8 48), .lit (.int .u8 27), .lit (.int .u8 60), .lit (.int .u8 41), .lit (.int .u8 37), .lit (.int .u8 16), .lit (.int .u8 46), .lit (.int .u8 35), .lit (.int .u8 44), .lit (.int .u8 21), .lit (.int .u8 52), .lit (.int .u8 32), .lit (.int .u8 23), .lit (.int .u8 11), .lit (.int .u8 54), .lit (.int .u8 26), .lit (.int .u8 40), .lit (.int .u8 15), .lit (.int .u8 34), .lit (.int .u8 20), .lit (.int .u8 31), .lit (.int .u8 10), .lit (.int .u8 25), .lit (.int .u8 14), .lit (.int .u8 19), .lit (.int .u8 9), .lit (.int .u8 13), .lit (.int .u8 8), .lit (.int .u8 7), .lit (.int .u8 6)]
def laid_internal_strconv_uint64pow10 {H : Type} : DataW H := .agg [.lit (.int .u64 1), .lit (.int .u64 10), .lit (.int .u64 100), .lit (.int .u64 1000), .lit (.int .u64 10000), .lit (.int .u64 100000), .lit (.int .u64 1000000), .lit (.int .u64 10000000), .lit (.int .u64 100000000), .lit (.int .u64 1000000000), .lit (.int .u64 10000000000), .lit (.int .u64 100000000000), .lit (.int .u64 1000000000000), .lit (.int .u64 10000000000000), .lit (.int .u64 100000000000000), .lit (.int .u64 1000000000000000), .lit (.int .u64 10000000000000000), .lit (.int .u64 100000000000000000), .lit (.int .u64 1000000000000000000), .lit (.int .u64 10000000000000000000)]

/-- 'merlonlaw07.ScopeChecks': WHATEVER THE INPUT: true; the input reads as it did. -/
def scopeChecksSpec : ChangeSpec := { name := "scopeChecks", fn := fun _ => fun
  | [d1, d2] => { results := [.lit (.bool true)], args := [d1, d2] }
  | _ => none }
def scopeChecksRow : OpenClaim := { program := "ytjeldfipipkfiaagreatdoor", sum := "6224fcbac2322ddaabdc80b30f5d1d63ac38e3ff9790a71ee04b6b0f329b4ba7", func := "merlon/merlonlaw07.ScopeChecks", spec := "scopeChecks", inPlace := ["internal/reflectlite.ValueOf", "(internal/reflectlite.Value).Type", "(internal/reflectlite.Value).IsNil", "internal/reflectlite.TypeOf", "(internal/reflectlite.Value).Elem", "(internal/reflectlite.Value).Set"], unfollowed := true, recurses := true, named := ["errors.errorType"], loops := true, apart := false, laid := [("errors.errorType", laid_errors_errorType)] }
def ScopeChecksSaid : Prop := scopeChecksRow.holds Tryz.pinned (OpenSpec.ofChange scopeChecksSpec)

/-- ITS FALSE NEIGHBOUR: 'it returns false'. Refute it at one input. -/
def scopeChecksWrong : ChangeSpec := { name := "scopeChecks", fn := fun _ => fun
  | [d1, d2] => { results := [.lit (.bool false)], args := [d1, d2] }
  | _ => none }
def ScopeChecksWrongFalsely : Prop := scopeChecksRow.holds Tryz.pinned (OpenSpec.ofChange scopeChecksWrong)

/-- 'merlonlaw07.ScopeTurns': WHATEVER THE INPUT: true; the input reads as it did. -/
def scopeTurnsSpec : ChangeSpec := { name := "scopeTurns", fn := fun _ => fun
  | [d1, d2] => { results := [.lit (.bool true)], args := [d1, d2] }
  | _ => none }
def scopeTurnsRow : OpenClaim := { program := "ytjeldfipipkfiaagreatdoor", sum := "6224fcbac2322ddaabdc80b30f5d1d63ac38e3ff9790a71ee04b6b0f329b4ba7", func := "merlon/merlonlaw07.ScopeTurns", spec := "scopeTurns", inPlace := ["internal/reflectlite.ValueOf", "(internal/reflectlite.Value).Type", "(internal/reflectlite.Value).IsNil", "internal/reflectlite.TypeOf", "(internal/reflectlite.Value).Elem", "(internal/reflectlite.Value).Set"], unfollowed := true, recurses := true, named := ["errors.errorType"], loops := true, apart := false, laid := [("errors.errorType", laid_errors_errorType)] }
def ScopeTurnsSaid : Prop := scopeTurnsRow.holds Tryz.pinned (OpenSpec.ofChange scopeTurnsSpec)

/-- ITS FALSE NEIGHBOUR: 'it returns false'. Refute it at one input. -/
def scopeTurnsWrong : ChangeSpec := { name := "scopeTurns", fn := fun _ => fun
  | [d1, d2] => { results := [.lit (.bool false)], args := [d1, d2] }
  | _ => none }
def ScopeTurnsWrongFalsely : Prop := scopeTurnsRow.holds Tryz.pinned (OpenSpec.ofChange scopeTurnsWrong)

/-- 'merlonlaw07.ScopeLess': WHATEVER THE INPUT: true; the input reads as it did. -/
def scopeLessSpec : ChangeSpec := { name := "scopeLess", fn := fun _ => fun
  | [d] => { results := [.lit (.bool true)], args := [d] }
  | _ => none }
def scopeLessRow : OpenClaim := { program := "ytjeldfipipkfiaagreatdoor", sum := "6224fcbac2322ddaabdc80b30f5d1d63ac38e3ff9790a71ee04b6b0f329b4ba7", func := "merlon/merlonlaw07.ScopeLess", spec := "scopeLess", inPlace := ["internal/reflectlite.ValueOf", "(internal/reflectlite.Value).Type", "(internal/reflectlite.Value).IsNil", "internal/reflectlite.TypeOf", "(internal/reflectlite.Value).Elem", "(internal/reflectlite.Value).Set"], unfollowed := true, recurses := true, named := ["errors.errorType"], loops := true, apart := false, laid := [("errors.errorType", laid_errors_errorType)] }
def ScopeLessSaid : Prop := scopeLessRow.holds Tryz.pinned (OpenSpec.ofChange scopeLessSpec)

/-- ITS FALSE NEIGHBOUR: 'it returns false'. Refute it at one input. -/
def scopeLessWrong : ChangeSpec := { name := "scopeLess", fn := fun _ => fun
  | [d] => { results := [.lit (.bool false)], args := [d] }
  | _ => none }
def ScopeLessWrongFalsely : Prop := scopeLessRow.holds Tryz.pinned (OpenSpec.ofChange scopeLessWrong)

/-- 'merlonlaw08.ExpandTells': WHATEVER THE INPUT: true; the input reads as it did. -/
def expandTellsSpec : ChangeSpec := { name := "expandTells", fn := fun _ => fun
  | [d1, d2, d3, d4, d5] => { results := [.lit (.bool true)], args := [d1, d2, d3, d4, d5] }
  | _ => none }
def expandTellsRow : OpenClaim := { program := "ytjeldfipipkfiaagreatdoor", sum := "6224fcbac2322ddaabdc80b30f5d1d63ac38e3ff9790a71ee04b6b0f329b4ba7", func := "merlon/merlonlaw08.ExpandTells", spec := "expandTells", inPlace := ["internal/abi.NoEscape", "internal/bytealg.MakeNoZero"], unfollowed := true, recurses := true, named := ["internal/strconv.uint64pow10", "math/bits.deBruijn32tab", "math/bits.deBruijn64tab"], loops := true, apart := false, laid := [("math/bits.deBruijn32tab", laid_math_bits_deBruijn32tab), ("math/bits.deBruijn64tab", laid_math_bits_deBruijn64tab), ("internal/strconv.uint64pow10", laid_internal_strconv_uint64pow10)] }
def ExpandTellsSaid : Prop := expandTellsRow.holds Tryz.pinned (OpenSpec.ofChange expandTellsSpec)

/-- ITS FALSE NEIGHBOUR: 'it returns false'. Refute it at one input. -/
def expandTellsWrong : ChangeSpec := { name := "expandTells", fn := fun _ => fun
  | [d1, d2, d3, d4, d5] => { results := [.lit (.bool false)], args := [d1, d2, d3, d4, d5] }
  | _ => none }
def ExpandTellsWrongFalsely : Prop := expandTellsRow.holds Tryz.pinned (OpenSpec.ofChange expandTellsWrong)

/-- 'merlonlaw08.ExpandPlain': WHATEVER THE INPUT: true; the input reads as it did. -/
def expandPlainSpec : ChangeSpec := { name := "expandPlain", fn := fun _ => fun
  | [d1, d2, d3, d4, d5] => { results := [.lit (.bool true)], args := [d1, d2, d3, d4, d5] }
  | _ => none }
def expandPlainRow : OpenClaim := { program := "ytjeldfipipkfiaagreatdoor", sum := "6224fcbac2322ddaabdc80b30f5d1d63ac38e3ff9790a71ee04b6b0f329b4ba7", func := "merlon/merlonlaw08.ExpandPlain", spec := "expandPlain", inPlace := ["internal/abi.NoEscape", "internal/bytealg.MakeNoZero"], unfollowed := true, recurses := true, named := ["internal/strconv.uint64pow10", "math/bits.deBruijn32tab", "math/bits.deBruijn64tab"], loops := true, apart := false, laid := [("math/bits.deBruijn32tab", laid_math_bits_deBruijn32tab), ("math/bits.deBruijn64tab", laid_math_bits_deBruijn64tab), ("internal/strconv.uint64pow10", laid_internal_strconv_uint64pow10)] }
def ExpandPlainSaid : Prop := expandPlainRow.holds Tryz.pinned (OpenSpec.ofChange expandPlainSpec)

/-- ITS FALSE NEIGHBOUR: 'it returns false'. Refute it at one input. -/
def expandPlainWrong : ChangeSpec := { name := "expandPlain", fn := fun _ => fun
  | [d1, d2, d3, d4, d5] => { results := [.lit (.bool false)], args := [d1, d2, d3, d4, d5] }
  | _ => none }
def ExpandPlainWrongFalsely : Prop := expandPlainRow.holds Tryz.pinned (OpenSpec.ofChange expandPlainWrong)

/-- 'merlonlaw08.ExpandParts': WHATEVER THE INPUT: true; the input reads as it did. -/
def expandPartsSpec : ChangeSpec := { name := "expandParts", fn := fun _ => fun
  | [d1, d2, d3, d4, d5, d6] => { results := [.lit (.bool true)], args := [d1, d2, d3, d4, d5, d6] }
  | _ => none }
def expandPartsRow : OpenClaim := { program := "ytjeldfipipkfiaagreatdoor", sum := "6224fcbac2322ddaabdc80b30f5d1d63ac38e3ff9790a71ee04b6b0f329b4ba7", func := "merlon/merlonlaw08.ExpandParts", spec := "expandParts", inPlace := ["internal/abi.NoEscape", "internal/bytealg.MakeNoZero"], unfollowed := true, recurses := true, named := ["internal/strconv.uint64pow10", "math/bits.deBruijn32tab", "math/bits.deBruijn64tab"], loops := true, apart := false, laid := [("math/bits.deBruijn32tab", laid_math_bits_deBruijn32tab), ("math/bits.deBruijn64tab", laid_math_bits_deBruijn64tab), ("internal/strconv.uint64pow10", laid_internal_strconv_uint64pow10)] }
def ExpandPartsSaid : Prop := expandPartsRow.holds Tryz.pinned (OpenSpec.ofChange expandPartsSpec)

/-- ITS FALSE NEIGHBOUR: 'it returns false'. Refute it at one input. -/
def expandPartsWrong : ChangeSpec := { name := "expandParts", fn := fun _ => fun
  | [d1, d2, d3, d4, d5, d6] => { results := [.lit (.bool false)], args := [d1, d2, d3, d4, d5, d6] }
  | _ => none }
def ExpandPartsWrongFalsely : Prop := expandPartsRow.holds Tryz.pinned (OpenSpec.ofChange expandPartsWrong)

/-- 'merlonlaw10.IfaceBuilds': WHATEVER THE INPUT: true; the input reads as it did. -/
def ifaceBuildsSpec : ChangeSpec := { name := "ifaceBuilds", fn := fun _ => fun
  | [d1, d2, d3, d4] => { results := [.lit (.bool true)], args := [d1, d2, d3, d4] }
  | _ => none }
def ifaceBuildsRow : OpenClaim := { program := "ytjeldfipipkfiaagreatdoor", sum := "6224fcbac2322ddaabdc80b30f5d1d63ac38e3ff9790a71ee04b6b0f329b4ba7", func := "merlon/merlonlaw10.IfaceBuilds", spec := "ifaceBuilds", inPlace := ["internal/reflectlite.ValueOf", "(internal/reflectlite.Value).Type", "(internal/reflectlite.Value).IsNil", "internal/reflectlite.TypeOf", "(internal/reflectlite.Value).Elem", "(internal/reflectlite.Value).Set"], unfollowed := true, recurses := true, named := ["errors.errorType"], loops := true, apart := false, laid := [("errors.errorType", laid_errors_errorType)] }
def IfaceBuildsSaid : Prop := ifaceBuildsRow.holds Tryz.pinned (OpenSpec.ofChange ifaceBuildsSpec)

/-- ITS FALSE NEIGHBOUR: 'it returns false'. Refute it at one input. -/
def ifaceBuildsWrong : ChangeSpec := { name := "ifaceBuilds", fn := fun _ => fun
  | [d1, d2, d3, d4] => { results := [.lit (.bool false)], args := [d1, d2, d3, d4] }
  | _ => none }
def IfaceBuildsWrongFalsely : Prop := ifaceBuildsRow.holds Tryz.pinned (OpenSpec.ofChange ifaceBuildsWrong)

/-- 'merlonlaw13.WitnessExact': WHATEVER THE INPUT: true; the input reads as it did. -/
def witnessExactSpec : ChangeSpec := { name := "witnessExact", fn := fun _ => fun
  | [d1, d2] => { results := [.lit (.bool true)], args := [d1, d2] }
  | _ => none }
def witnessExactRow : OpenClaim := { program := "ytjeldfipipkfiaagreatdoor", sum := "6224fcbac2322ddaabdc80b30f5d1d63ac38e3ff9790a71ee04b6b0f329b4ba7", func := "merlon/merlonlaw13.WitnessExact", spec := "witnessExact", inPlace := ["internal/abi.NoEscape", "internal/bytealg.MakeNoZero"], unfollowed := true, recurses := true, named := ["internal/strconv.uint64pow10", "math/bits.deBruijn32tab", "math/bits.deBruijn64tab"], loops := true, apart := false, laid := [("math/bits.deBruijn32tab", laid_math_bits_deBruijn32tab), ("math/bits.deBruijn64tab", laid_math_bits_deBruijn64tab), ("internal/strconv.uint64pow10", laid_internal_strconv_uint64pow10)] }
def WitnessExactSaid : Prop := witnessExactRow.holds Tryz.pinned (OpenSpec.ofChange witnessExactSpec)

/-- ITS FALSE NEIGHBOUR: 'it returns false'. Refute it at one input. -/
def witnessExactWrong : ChangeSpec := { name := "witnessExact", fn := fun _ => fun
  | [d1, d2] => { results := [.lit (.bool false)], args := [d1, d2] }
  | _ => none }
def WitnessExactWrongFalsely : Prop := witnessExactRow.holds Tryz.pinned (OpenSpec.ofChange witnessExactWrong)

/-- 'merlonlaw13.WitnessAlike': WHATEVER THE INPUT: true; the input reads as it did. -/
def witnessAlikeSpec : ChangeSpec := { name := "witnessAlike", fn := fun _ => fun
  | [d1, d2, d3] => { results := [.lit (.bool true)], args := [d1, d2, d3] }
  | _ => none }
def witnessAlikeRow : OpenClaim := { program := "ytjeldfipipkfiaagreatdoor", sum := "6224fcbac2322ddaabdc80b30f5d1d63ac38e3ff9790a71ee04b6b0f329b4ba7", func := "merlon/merlonlaw13.WitnessAlike", spec := "witnessAlike", inPlace := ["internal/abi.NoEscape", "internal/bytealg.MakeNoZero"], unfollowed := true, recurses := true, named := ["internal/strconv.uint64pow10", "math/bits.deBruijn32tab", "math/bits.deBruijn64tab"], loops := true, apart := false, laid := [("math/bits.deBruijn32tab", laid_math_bits_deBruijn32tab), ("math/bits.deBruijn64tab", laid_math_bits_deBruijn64tab), ("internal/strconv.uint64pow10", laid_internal_strconv_uint64pow10)] }
def WitnessAlikeSaid : Prop := witnessAlikeRow.holds Tryz.pinned (OpenSpec.ofChange witnessAlikeSpec)

/-- ITS FALSE NEIGHBOUR: 'it returns false'. Refute it at one input. -/
def witnessAlikeWrong : ChangeSpec := { name := "witnessAlike", fn := fun _ => fun
  | [d1, d2, d3] => { results := [.lit (.bool false)], args := [d1, d2, d3] }
  | _ => none }
def WitnessAlikeWrongFalsely : Prop := witnessAlikeRow.holds Tryz.pinned (OpenSpec.ofChange witnessAlikeWrong)

/- THE SECOND FORM. 'bulk': how many values and letters a reading holds, each counted each time it is reached (what is shared counts as often as it is met; a slice's spare places count too). A statement '..UptoSaid' is the law's where the arguments, and the package variables that the reading takes, are together of bulk at most 1048576: NARROWER than '..Said'. Prove '..Said' where nothing that the law and all that it calls make is longer than what came in: it says more and counts as full. Else prove '..UptoSaid'. A law counts once. -/
mutual
def uptoBulk {H : Type} : DataW H → Nat
  | .lit (.string bytes) => bytes.length + 1
  | .lit _ => 1
  | .nil => 1
  | .ptr d => uptoBulk d + 1
  | .slice elems spare => uptoBulkAll elems + uptoBulkAll spare + 1
  | .agg parts => uptoBulkAll parts + 1
  | .iface _ d => uptoBulk d + 1
  | .map entries => uptoBulkEntries entries + 1
  | .held _ => 1
def uptoBulkAll {H : Type} : List (DataW H) → Nat
  | [] => 0
  | d :: r => uptoBulk d + uptoBulkAll r
def uptoBulkEntries {H : Type} : List (Lit × DataW H) → Nat
  | [] => 0
  | x :: r => uptoBulkEntry x + uptoBulkEntries r
def uptoBulkEntry {H : Type} : Lit × DataW H → Nat
  | (.string bytes, d) => bytes.length + uptoBulk d + 1
  | (_, d) => uptoBulk d + 1
 end
def uptoSmall : (H : Type) → List (DataW H) → Bool := fun _ ds => decide (uptoBulkAll ds ≤ 1048576)
def OpenSpec.upto (s : _root_.Go.ChangeSpec) : _root_.Go.OpenSpec := { _root_.Go.OpenSpec.ofChange s with cond := some uptoSmall }

/-- 'merlonlaw07.ScopeChecks', WHERE WHAT IT READS IS OF BULK AT MOST 1048576: true; the input reads as it did. -/
def scopeChecksUptoRow : OpenClaim := { program := "ytjeldfipipkfiaagreatdoor", sum := "6224fcbac2322ddaabdc80b30f5d1d63ac38e3ff9790a71ee04b6b0f329b4ba7", func := "merlon/merlonlaw07.ScopeChecks", spec := "scopeChecks", inPlace := ["internal/reflectlite.ValueOf", "(internal/reflectlite.Value).Type", "(internal/reflectlite.Value).IsNil", "internal/reflectlite.TypeOf", "(internal/reflectlite.Value).Elem", "(internal/reflectlite.Value).Set"], unfollowed := true, recurses := true, named := ["errors.errorType"], loops := true, apart := false, laid := [("errors.errorType", laid_errors_errorType)], narrowed := true }
def ScopeChecksUptoSaid : Prop := scopeChecksUptoRow.holds Tryz.pinned (OpenSpec.upto scopeChecksSpec)

/-- 'merlonlaw07.ScopeTurns', WHERE WHAT IT READS IS OF BULK AT MOST 1048576: true; the input reads as it did. -/
def scopeTurnsUptoRow : OpenClaim := { program := "ytjeldfipipkfiaagreatdoor", sum := "6224fcbac2322ddaabdc80b30f5d1d63ac38e3ff9790a71ee04b6b0f329b4ba7", func := "merlon/merlonlaw07.ScopeTurns", spec := "scopeTurns", inPlace := ["internal/reflectlite.ValueOf", "(internal/reflectlite.Value).Type", "(internal/reflectlite.Value).IsNil", "internal/reflectlite.TypeOf", "(internal/reflectlite.Value).Elem", "(internal/reflectlite.Value).Set"], unfollowed := true, recurses := true, named := ["errors.errorType"], loops := true, apart := false, laid := [("errors.errorType", laid_errors_errorType)], narrowed := true }
def ScopeTurnsUptoSaid : Prop := scopeTurnsUptoRow.holds Tryz.pinned (OpenSpec.upto scopeTurnsSpec)

/-- 'merlonlaw07.ScopeLess', WHERE WHAT IT READS IS OF BULK AT MOST 1048576: true; the input reads as it did. -/
def scopeLessUptoRow : OpenClaim := { program := "ytjeldfipipkfiaagreatdoor", sum := "6224fcbac2322ddaabdc80b30f5d1d63ac38e3ff9790a71ee04b6b0f329b4ba7", func := "merlon/merlonlaw07.ScopeLess", spec := "scopeLess", inPlace := ["internal/reflectlite.ValueOf", "(internal/reflectlite.Value).Type", "(internal/reflectlite.Value).IsNil", "internal/reflectlite.TypeOf", "(internal/reflectlite.Value).Elem", "(internal/reflectlite.Value).Set"], unfollowed := true, recurses := true, named := ["errors.errorType"], loops := true, apart := false, laid := [("errors.errorType", laid_errors_errorType)], narrowed := true }
def ScopeLessUptoSaid : Prop := scopeLessUptoRow.holds Tryz.pinned (OpenSpec.upto scopeLessSpec)

/-- 'merlonlaw08.ExpandTells', WHERE WHAT IT READS IS OF BULK AT MOST 1048576: true; the input reads as it did. -/
def expandTellsUptoRow : OpenClaim := { program := "ytjeldfipipkfiaagreatdoor", sum := "6224fcbac2322ddaabdc80b30f5d1d63ac38e3ff9790a71ee04b6b0f329b4ba7", func := "merlon/merlonlaw08.ExpandTells", spec := "expandTells", inPlace := ["internal/abi.NoEscape", "internal/bytealg.MakeNoZero"], unfollowed := true, recurses := true, named := ["internal/strconv.uint64pow10", "math/bits.deBruijn32tab", "math/bits.deBruijn64tab"], loops := true, apart := false, laid := [("math/bits.deBruijn32tab", laid_math_bits_deBruijn32tab), ("math/bits.deBruijn64tab", laid_math_bits_deBruijn64tab), ("internal/strconv.uint64pow10", laid_internal_strconv_uint64pow10)], narrowed := true }
def ExpandTellsUptoSaid : Prop := expandTellsUptoRow.holds Tryz.pinned (OpenSpec.upto expandTellsSpec)

/-- 'merlonlaw08.ExpandPlain', WHERE WHAT IT READS IS OF BULK AT MOST 1048576: true; the input reads as it did. -/
def expandPlainUptoRow : OpenClaim := { program := "ytjeldfipipkfiaagreatdoor", sum := "6224fcbac2322ddaabdc80b30f5d1d63ac38e3ff9790a71ee04b6b0f329b4ba7", func := "merlon/merlonlaw08.ExpandPlain", spec := "expandPlain", inPlace := ["internal/abi.NoEscape", "internal/bytealg.MakeNoZero"], unfollowed := true, recurses := true, named := ["internal/strconv.uint64pow10", "math/bits.deBruijn32tab", "math/bits.deBruijn64tab"], loops := true, apart := false, laid := [("math/bits.deBruijn32tab", laid_math_bits_deBruijn32tab), ("math/bits.deBruijn64tab", laid_math_bits_deBruijn64tab), ("internal/strconv.uint64pow10", laid_internal_strconv_uint64pow10)], narrowed := true }
def ExpandPlainUptoSaid : Prop := expandPlainUptoRow.holds Tryz.pinned (OpenSpec.upto expandPlainSpec)

/-- 'merlonlaw08.ExpandParts', WHERE WHAT IT READS IS OF BULK AT MOST 1048576: true; the input reads as it did. -/
def expandPartsUptoRow : OpenClaim := { program := "ytjeldfipipkfiaagreatdoor", sum := "6224fcbac2322ddaabdc80b30f5d1d63ac38e3ff9790a71ee04b6b0f329b4ba7", func := "merlon/merlonlaw08.ExpandParts", spec := "expandParts", inPlace := ["internal/abi.NoEscape", "internal/bytealg.MakeNoZero"], unfollowed := true, recurses := true, named := ["internal/strconv.uint64pow10", "math/bits.deBruijn32tab", "math/bits.deBruijn64tab"], loops := true, apart := false, laid := [("math/bits.deBruijn32tab", laid_math_bits_deBruijn32tab), ("math/bits.deBruijn64tab", laid_math_bits_deBruijn64tab), ("internal/strconv.uint64pow10", laid_internal_strconv_uint64pow10)], narrowed := true }
def ExpandPartsUptoSaid : Prop := expandPartsUptoRow.holds Tryz.pinned (OpenSpec.upto expandPartsSpec)

/-- 'merlonlaw10.IfaceBuilds', WHERE WHAT IT READS IS OF BULK AT MOST 1048576: true; the input reads as it did. -/
def ifaceBuildsUptoRow : OpenClaim := { program := "ytjeldfipipkfiaagreatdoor", sum := "6224fcbac2322ddaabdc80b30f5d1d63ac38e3ff9790a71ee04b6b0f329b4ba7", func := "merlon/merlonlaw10.IfaceBuilds", spec := "ifaceBuilds", inPlace := ["internal/reflectlite.ValueOf", "(internal/reflectlite.Value).Type", "(internal/reflectlite.Value).IsNil", "internal/reflectlite.TypeOf", "(internal/reflectlite.Value).Elem", "(internal/reflectlite.Value).Set"], unfollowed := true, recurses := true, named := ["errors.errorType"], loops := true, apart := false, laid := [("errors.errorType", laid_errors_errorType)], narrowed := true }
def IfaceBuildsUptoSaid : Prop := ifaceBuildsUptoRow.holds Tryz.pinned (OpenSpec.upto ifaceBuildsSpec)

/-- 'merlonlaw13.WitnessExact', WHERE WHAT IT READS IS OF BULK AT MOST 1048576: true; the input reads as it did. -/
def witnessExactUptoRow : OpenClaim := { program := "ytjeldfipipkfiaagreatdoor", sum := "6224fcbac2322ddaabdc80b30f5d1d63ac38e3ff9790a71ee04b6b0f329b4ba7", func := "merlon/merlonlaw13.WitnessExact", spec := "witnessExact", inPlace := ["internal/abi.NoEscape", "internal/bytealg.MakeNoZero"], unfollowed := true, recurses := true, named := ["internal/strconv.uint64pow10", "math/bits.deBruijn32tab", "math/bits.deBruijn64tab"], loops := true, apart := false, laid := [("math/bits.deBruijn32tab", laid_math_bits_deBruijn32tab), ("math/bits.deBruijn64tab", laid_math_bits_deBruijn64tab), ("internal/strconv.uint64pow10", laid_internal_strconv_uint64pow10)], narrowed := true }
def WitnessExactUptoSaid : Prop := witnessExactUptoRow.holds Tryz.pinned (OpenSpec.upto witnessExactSpec)

/-- 'merlonlaw13.WitnessAlike', WHERE WHAT IT READS IS OF BULK AT MOST 1048576: true; the input reads as it did. -/
def witnessAlikeUptoRow : OpenClaim := { program := "ytjeldfipipkfiaagreatdoor", sum := "6224fcbac2322ddaabdc80b30f5d1d63ac38e3ff9790a71ee04b6b0f329b4ba7", func := "merlon/merlonlaw13.WitnessAlike", spec := "witnessAlike", inPlace := ["internal/abi.NoEscape", "internal/bytealg.MakeNoZero"], unfollowed := true, recurses := true, named := ["internal/strconv.uint64pow10", "math/bits.deBruijn32tab", "math/bits.deBruijn64tab"], loops := true, apart := false, laid := [("math/bits.deBruijn32tab", laid_math_bits_deBruijn32tab), ("math/bits.deBruijn64tab", laid_math_bits_deBruijn64tab), ("internal/strconv.uint64pow10", laid_internal_strconv_uint64pow10)], narrowed := true }
def WitnessAlikeUptoSaid : Prop := witnessAlikeUptoRow.holds Tryz.pinned (OpenSpec.upto witnessAlikeSpec)

end Rows
end Go.Proofs.YtjeldfipipkfiaaGreatDoor
