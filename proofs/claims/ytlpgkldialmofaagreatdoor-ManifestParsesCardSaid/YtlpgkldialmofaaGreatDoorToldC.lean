/- merlonlaw00.Told at an error that is ErrForm itself, and at a Spot of it. -/
import Derived.Test.YtlpgkldialmofaaGreatDoorHandA
namespace Go.Proofs.YtlpgkldialmofaaGreatDoor
open Go.RowKit
set_option linter.unusedSimpArgs false
set_option linter.unusedVariables false
theorem RL.two1 (w : World) : (binOp .eql 29 (.iface 32 (.int .i64 2)) (.iface 32 (.int .i64 1))).run Tryz.prog w = .ok (.bool false) w := by kernel_rfl
theorem code2_c (w : World) : Calls Tryz.prog 22 #[.iface 32 (.int .i64 2)] w fun e w' => e = .returned (.int .i64 2) ∧ w' = w := by
  have l1 := RL.two1
  have l2 := RL.like
  go_enter Tryz.func22, Tryz.ntmps22
  go_wp2_with fail
  go_loop [3] (fun i => i = .int .i64 1 ∨ i = .int .i64 2) (fun i => 2 - (intOf i).toNat)
  case atStart => exact .inl rfl
  case round =>
    rcases hrel with rfl | rfl
    · go_wp2_with fail
      exact ⟨.inr rfl, by simp [intOf]⟩
    · go_wp2_with fail
      go_ret
      exact ⟨rfl, rfl⟩
theorem told2_c (w : World) : Calls Tryz.prog 8 #[.iface 32 (.int .i64 2), .int .i64 2, .int .i64 (-1)] w fun e w' => e = .returned (.bool true) ∧ w' = w := by
  go_enter Tryz.func8, Tryz.ntmps8
  go_wp2_with (go_at_call 22; refine (code2_c _).mono ?_; rintro e w' ⟨rfl, rfl⟩)
  go_ret
  exact ⟨rfl, rfl⟩
theorem toldSpot_c (b : Nat) (k : Nat) (w : World) (hg : HandleAt w) (h : Blk w b #[.int .i64 (k : Nat), .iface 32 (.int .i64 2)] 71) :
    Calls Tryz.prog 8 #[.iface 69 (.pointer (some ⟨b, 0, none⟩)), .int .i64 2, .int .i64 (k : Nat)] w fun e w' => e = .returned (.bool true) ∧ Below w.heap.size w w' := by
  have hk : ¬ ((k : Nat) : Int) < 0 := by omega
  have HG := Lib.hid hg
  have HB := Lib.hid h
  clear hg h
  go_enter Tryz.func8, Tryz.ntmps8
  go_wp2_with (go_at_call 23; refine (is_c b _ _ HG.out HB.out).mono ?_; rintro e w' ⟨rfl, hb⟩)
  go_ret
  exact ⟨rfl, hb⟩
end Go.Proofs.YtlpgkldialmofaaGreatDoor
