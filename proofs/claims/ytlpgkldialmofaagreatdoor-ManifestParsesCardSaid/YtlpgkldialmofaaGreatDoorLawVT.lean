/- merlonlaw01.SemverTexts returns true; the premises: a text of less than 4294967281 bytes; the library's number MaxLen reads as some int; strconv's table is as the program lays it. -/
import Derived.Test.YtlpgkldialmofaaGreatDoorUpV
import Derived.Test.YtlpgkldialmofaaGreatDoorRefParV
import Derived.Deep.DeepCutAuto
import Derived.Deep.Cut
import Derived.Laws.StructEq
namespace Go.Proofs.YtlpgkldialmofaaGreatDoor
open Go.RowKit
set_option linter.unusedSimpArgs false
set_option linter.unusedVariables false
theorem neq_err1 (w : World) : (binOp BinOp.neq 29 (.iface 32 (.int .i64 1)) (.iface 32 (.int .i64 1))).run Tryz.prog w = .ok (.bool false) w := by kernel_rfl
theorem errV_0 : errV 0 = .nilIface := rfl
theorem errV_1 : errV 1 = .iface 32 (.int .i64 1) := rfl
theorem errV_2 : errV 2 = .iface 32 (.int .i64 2) := rfl
end Go.Proofs.YtlpgkldialmofaaGreatDoor
