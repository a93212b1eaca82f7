/- merlonlaw01.up returns true; the premise: the library's number MaxLen reads as some int. -/
import Derived.Test.YtlpgkldialmofaaDoorParseC
import Derived.Deep.DeepCutAuto
namespace Go.Proofs.YtlpgkldialmofaaDoor
open Go.RowKit
set_option linter.unusedSimpArgs false
set_option linter.unusedVariables false
theorem eq_err1 (w : World) : (binOp BinOp.eql 26 (.iface 31 (.int .i64 1)) (.iface 31 (.int .i64 1))).run Tryd.prog w = .ok (.bool true) w := by kernel_rfl
theorem eq_err2 (w : World) : (binOp BinOp.eql 26 (.iface 31 (.int .i64 2)) (.iface 31 (.int .i64 2))).run Tryd.prog w = .ok (.bool true) w := by kernel_rfl
theorem eq_err3 (w : World) : (binOp BinOp.eql 26 (.iface 31 (.int .i64 3)) (.iface 31 (.int .i64 3))).run Tryd.prog w = .ok (.bool true) w := by kernel_rfl
set_option maxRecDepth 100000 in
set_option maxHeartbeats 4000000 in
theorem sup_c (w : World) (hm : MaxW w) : Calls Tryd.prog 7 #[] w fun e w' => e = .returned (.bool true) ∧ Below w.heap.size w w' := by
  have HM := Lib.hid hm
  clear hm
  go_enter Tryd.func7, Tryd.ntmps7
  go_wp2_with fail
  have hn := next_c 1 2 3 2 w
  rw [show nextV 1 2 3 2 = (1, 3, 0) from by decide, show nextE 1 2 3 2 = 0 from by decide, show errV 0 = .nilIface from rfl] at hn
  simp only [ver] at hn
  refine hn.mono ?_
  rintro e w1 ⟨rfl, hb1⟩
  clear hn
  go_upto_region 2 with fail
  have hx := Blk.new w1 #[.int .i64 1, .int .i64 3, .int .i64 0] 23
  have hb := hb1.alloc hb1.size (.cells #[.int .i64 1, .int .i64 3, .int .i64 0] 23)
  generalize (w1.alloc (.cells #[.int .i64 1, .int .i64 3, .int .i64 0] 23)) = Y at hx hb ⊢
  generalize w1.heap.size = bx at hx ⊢
  have hp := parse_c { data := #[49, 46, 48, 50, 46, 48] } Y (by decide) (HM.out.below hb)
  rw [show parV ({ data := #[49, 46, 48, 50, 46, 48] } : ByteArray).data.toList = (0, 0, 0) from by decide +kernel, show parE ({ data := #[49, 46, 48, 50, 46, 48] } : ByteArray).data.toList = 2 from by decide +kernel, show errV 2 = .iface 31 (.int .i64 2) from rfl] at hp
  simp only [ver] at hp
  go_wp2_with fail
  refine hp.mono ?_
  rintro e w2 ⟨rfl, hb2⟩
  clear hp
  have hbb := acc0 hb hb.size hb2
  obtain ⟨x0, x1, x2⟩ := cells3 (hx.under hb2 hx.lt)
  have lx := (hx.under hb2 hx.lt).lt
  have hacc := hbb.alloc hbb.size (.cells #[.int .i64 0, .int .i64 0, .int .i64 0] 23)
  have he := eq_err2 (w2.alloc (.cells #[.int .i64 0, .int .i64 0, .int .i64 0] 23))
  clear hb1 hx hb hb2
  go_wp2_with fail
  go_ret
  exact ⟨rfl, hacc⟩
end Go.Proofs.YtlpgkldialmofaaDoor
