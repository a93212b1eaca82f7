/- merlonlaw14.ManifestPrints returns true; the premises: the deps lie as DepsAt says; lengths that every value has; the library's number MaxLen reads as some int; strconv's table is as the program lays it. -/
import Derived.Test.YtlpgkldialmofaaGreatDoorUpM
import Derived.Test.YtlpgkldialmofaaGreatDoorLawVT
namespace Go.Proofs.YtlpgkldialmofaaGreatDoor
open Go.RowKit
set_option linter.unusedSimpArgs false
set_option linter.unusedVariables false
set_option maxRecDepth 100000 in
set_option maxHeartbeats 8000000 in
theorem mup_c (w : World) (hm : MaxW w) : Calls Tryz.prog 4 #[] w fun e w' => e = .returned (.bool true) ∧ Below w.heap.size w w' := by
  have HM := Lib.hid hm
  clear hm
  go_enter Tryz.func4, Tryz.ntmps4
  have hn := man1 w HM.out
  simp only [up1, manV] at hn
  go_wp2_with fail
  refine hn.mono ?_
  rintro e w1 ⟨A, cap, rfl, hd, hb1⟩
  have HD := Lib.hid hd
  clear hn hd
  go_upto_region 2 with fail
  have hx := Blk.new w1 #[.string { data := #[112] }, .int .i64 1, .int .i64 0, .int .i64 0, .slice A 1 cap] 27
  have hb := hb1.alloc hb1.size (.cells #[.string { data := #[112] }, .int .i64 1, .int .i64 0, .int .i64 0, .slice A 1 cap] 27)
  have hbd := (Below.refl w1.heap.size w1).alloc (Nat.le_refl _) (.cells #[.string { data := #[112] }, .int .i64 1, .int .i64 0, .int .i64 0, .slice A 1 cap] 27)
  have HD1 := Lib.hid (HD.out.under hbd (Nat.le_refl _))
  clear hbd
  generalize (w1.alloc (.cells #[.string { data := #[112] }, .int .i64 1, .int .i64 0, .int .i64 0, .slice A 1 cap] 27)) = Y at hx hb HD1 ⊢
  generalize w1.heap.size = bx at hx ⊢
  have hp := man2 Y (HM.out.below hb)
  simp only [up2, manZ] at hp
  go_wp2_with fail
  refine hp.mono ?_
  rintro e w2 ⟨rfl, hb2⟩
  clear hp
  have hbb := acc0 hb hb.size hb2
  obtain ⟨x0, x1, x2, x3, x4⟩ := cells5 (hx.under hb2 hx.lt)
  have lx := (hx.under hb2 hx.lt).lt
  have hD2 := HD1.out.under hb2 (Nat.le_refl _)
  have hacc := hbb.alloc hbb.size (.cells #[.string { data := #[] }, .int .i64 0, .int .i64 0, .int .i64 0, .slice none 0 0] 27)
  have he := eq_err2 (w2.alloc (.cells #[.string { data := #[] }, .int .i64 0, .int .i64 0, .int .i64 0, .slice none 0 0] 27))
  rcases hD2 with hD2 | ⟨b, o, rfl, hbl, hc⟩
  · cases hD2
  have hc5 := hc 0 (by decide) 5 (by decide)
  simp [depV] at hc5
  clear hb1 hx hb hb2 hc
  go_wp2_with fail
  go_ret
  exact ⟨rfl, hacc⟩
end Go.Proofs.YtlpgkldialmofaaGreatDoor
