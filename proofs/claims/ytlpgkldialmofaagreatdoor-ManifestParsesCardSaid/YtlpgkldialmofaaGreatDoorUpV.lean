/- merlonlaw01.up returns true; the premise: the library's number MaxLen reads as some int. -/
import Derived.Test.YtlpgkldialmofaaGreatDoorParseC
import Derived.Deep.DeepCutAuto
namespace Go.Proofs.YtlpgkldialmofaaGreatDoor
open Go.RowKit
set_option linter.unusedSimpArgs false
set_option linter.unusedVariables false
theorem eq_err1 (w : World) : (binOp BinOp.eql 29 (.iface 32 (.int .i64 1)) (.iface 32 (.int .i64 1))).run Tryz.prog w = .ok (.bool true) w := by kernel_rfl
theorem eq_err2 (w : World) : (binOp BinOp.eql 29 (.iface 32 (.int .i64 2)) (.iface 32 (.int .i64 2))).run Tryz.prog w = .ok (.bool true) w := by kernel_rfl
theorem eq_err3 (w : World) : (binOp BinOp.eql 29 (.iface 32 (.int .i64 3)) (.iface 32 (.int .i64 3))).run Tryz.prog w = .ok (.bool true) w := by kernel_rfl
end Go.Proofs.YtlpgkldialmofaaGreatDoor
