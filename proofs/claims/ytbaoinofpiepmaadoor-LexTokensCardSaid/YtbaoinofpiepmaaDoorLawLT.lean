/- merlonlaw03.LexTokens: true. -/
import Derived.Test.YtbaoinofpiepmaaDoorUpT3
import Derived.Test.YtbaoinofpiepmaaDoorLexR2
namespace Go.Proofs.YtbaoinofpiepmaaDoor
open Go.RowKit
set_option linter.unusedSimpArgs false
set_option linter.unusedVariables false
theorem RL.like3 (w : World) : (binOp .eql 25 (.iface 28 (.int .i64 3)) (.iface 28 (.int .i64 3))).run Tryd.prog w = .ok (.bool true) w := by kernel_rfl
set_option maxRecDepth 100000 in
set_option maxHeartbeats 4000000 in
theorem lexTokens_c (s : ByteArray) (w : World) (hg : HandleAt w) : Calls Tryd.prog 3 #[.string s] w fun e w' => e = .returned (.bool true) ∧ Below w.heap.size w w' := by
  have l3 := RL.like3
  go_enter Tryd.func3, Tryd.ntmps3
  go_wp2_with fail
  refine (up_c w hg).mono ?_
  rintro e w1 ⟨rfl, hb1⟩
  have hg1 := hg.under hb1
  by_cases hs : s.size ≤ 20000
  rotate_left
  · have hsI : (20000 : Int) < (s.size : Int) := by omega
    go_wp2_with fail
    refine (tokens_large s _ (by omega)).mono ?_
    rintro e w2 ⟨rfl, rfl⟩
    go_wp2_with fail
    go_ret
    exact ⟨rfl, hb1⟩
  have hsI : ¬ (20000 : Int) < (s.size : Int) := by omega
  go_wp2_with fail
  refine (tokens_c s _ hs).mono ?_
  rintro e w2 ⟨hb2, hans⟩
  have hb12 := hb1.trans (hb2.mono hb1.size)
  rcases hans with ⟨ts, sv, hsc, hl, rfl, hrow⟩ | ⟨ts, k, b, hsc, hk, rfl, hbb, hblk⟩
  · have hrow1 := Lib.hid (TokAt.own hrow)
    clear hrow
    go_wp2_with fail
    refine (refTokens_c s _ hs).mono ?_
    rintro e w3 ⟨hb3, hans⟩
    rcases hans with ⟨ts2, sv2, hsc2, hl2, rfl, hrow⟩ | ⟨ts2, k2, hsc2, -⟩
    rotate_left
    · rw [hsc] at hsc2; injection hsc2 with h1 h2; cases h2
    rw [hsc] at hsc2
    injection hsc2 with h1 h2
    subst h1
    have hrow2 := Lib.hid (TokAt.own hrow)
    have hrow3 := Lib.hid (hrow1.out.under hb3)
    have hb13 := Lib.hid (hb12.trans (hb3.mono hb12.size))
    have hl4 := Lib.hid (Nat.le_trans hl hs)
    clear hrow hrow1 hb3 hb12 hb2 hl hl2 h2 hsc hg1
    go_wp2_with (go_at_call 10; refine (same_c ts _ _ _ hrow3.out hrow2.out hl4.out).mono ?_; rintro e w4 ⟨rfl, hb4⟩)
    go_ret
    exact ⟨rfl, hb13.out.trans (hb4.mono hb13.out.size)⟩
  · go_wp2_with fail
    refine (refTokens_c s _ hs).mono ?_
    rintro e w3 ⟨hb3, hans⟩
    rcases hans with ⟨ts2, sv2, hsc2, -⟩ | ⟨ts2, k2, hsc2, hk2, rfl⟩
    · rw [hsc] at hsc2; injection hsc2 with h1 h2; cases h2
    rw [hsc] at hsc2
    injection hsc2 with h1 h2
    injection h2 with h2
    subst h1 h2
    have hg3 := Lib.hid ((hg1.under hb2).under hb3)
    have HK := Lib.hid (hblk.under hb3 hblk.lt)
    have hb13 := Lib.hid (hb12.trans (hb3.mono hb12.size))
    clear hblk hbb hb3 hb12 hb2 hsc hg1 hg hb1
    go_wp2_with (go_at_call 9; refine (is_c _ _ _ hg3.out HK.out).mono ?_; rintro e w4 ⟨rfl, hb4⟩)
    go_ret
    exact ⟨rfl, hb13.out.trans (hb4.mono hb13.out.size)⟩
end Go.Proofs.YtbaoinofpiepmaaDoor
