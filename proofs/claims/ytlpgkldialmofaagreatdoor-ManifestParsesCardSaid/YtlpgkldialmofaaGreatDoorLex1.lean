/- The contracts of package lex's byte classes and of its run. -/
import Derived.Test.YtlpgkldialmofaaGreatDoorBlkS
import Derived.Deep.DeepCutAuto
namespace Go.Proofs.YtlpgkldialmofaaGreatDoor
open Go.RowKit
set_option linter.unusedSimpArgs false
set_option linter.unusedVariables false
theorem ret_bool {a b : Bool} (h : a = b) : Ending.returned (.bool a) = Ending.returned (.bool b) := by rw [h]
def smallC (c : UInt8) : Bool := decide (97 ≤ (c.toNat : Int)) && decide ((c.toNat : Int) ≤ 122)
def greatC (c : UInt8) : Bool := decide (65 ≤ (c.toNat : Int)) && decide ((c.toNat : Int) ≤ 90)
def digitC (c : UInt8) : Bool := decide (48 ≤ (c.toNat : Int)) && decide ((c.toNat : Int) ≤ 57)
def wordC (c : UInt8) : Bool := smallC c || (greatC c || digitC c)
def blankC (c : UInt8) : Bool := (c.toNat : Int) == 32 || (c.toNat : Int) == 9 || (c.toNat : Int) == 10
def lineC (c : UInt8) : Bool := !((c.toNat : Int) == 10)
/-- the contract of a byte class -/
def ClassAt (fn : FuncId) (p : UInt8 → Bool) : Prop := ∀ (c : UInt8) (w : World), Calls Tryz.prog fn #[.int .u8 (c.toNat : Int)] w fun e w' => e = .returned (.bool (p c)) ∧ w = w'
theorem small_c : ClassAt 46 smallC := by
  intro c w
  go_enter Tryz.func46, Tryz.ntmps46
  go_wp2
  all_goals
    go_ret
    refine ⟨?_, rfl⟩
    (go_tidy; first | (simp_all [smallC]; done) | (simp_all [smallC]; omega) | (exfalso; simp_all [smallC]; omega))
theorem great_c : ClassAt 48 greatC := by
  intro c w
  go_enter Tryz.func48, Tryz.ntmps48
  go_wp2
  all_goals
    go_ret
    refine ⟨?_, rfl⟩
    (go_tidy; first | (simp_all [greatC]; done) | (simp_all [greatC]; omega) | (exfalso; simp_all [greatC]; omega))
theorem digit_c : ClassAt 49 digitC := by
  intro c w
  go_enter Tryz.func49, Tryz.ntmps49
  go_wp2
  all_goals
    go_ret
    refine ⟨?_, rfl⟩
    (go_tidy; first | (simp_all [digitC]; done) | (simp_all [digitC]; omega) | (exfalso; simp_all [digitC]; omega))
theorem blank_c : ClassAt 24 blankC := by
  intro c w
  go_enter Tryz.func24, Tryz.ntmps24
  go_wp2
  all_goals
    go_ret
    refine ⟨?_, rfl⟩
    first | (apply ret_bool; unfold blankC; first | rfl | (simp_all; done) | (simp_all; omega))
theorem line_c : ClassAt 26 lineC := by
  intro c w
  go_enter Tryz.func26, Tryz.ntmps26
  go_wp2
  all_goals
    go_ret
    refine ⟨?_, rfl⟩
    first | (apply ret_bool; unfold lineC; first | rfl | (simp_all; done) | (simp_all; omega))
theorem word_c : ClassAt 47 wordC := by
  intro c w
  obtain ⟨s, hs⟩ : ∃ v, smallC c = v := ⟨_, rfl⟩
  obtain ⟨g, hg⟩ : ∃ v, greatC c = v := ⟨_, rfl⟩
  obtain ⟨d, hd⟩ : ∃ v, digitC c = v := ⟨_, rfl⟩
  rw [wordC, hs, hg, hd]
  have HS := Lib.hid hs
  have HG := Lib.hid hg
  have HD := Lib.hid hd
  clear hs hg hd
  cases s <;> cases g
  all_goals
    go_enter Tryz.func47, Tryz.ntmps47
    go_wp2_with (first
      | (go_at_call 46; refine (small_c c _).mono ?_; rintro e w' ⟨rfl, rfl⟩; rw [HS.out])
      | (go_at_call 48; refine (great_c c _).mono ?_; rintro e w' ⟨rfl, rfl⟩; rw [HG.out])
      | (go_at_call 49; refine (digit_c c _).mono ?_; rintro e w' ⟨rfl, rfl⟩; rw [HD.out]))
    go_ret
    exact ⟨rfl, rfl⟩
/-- how many bytes from the front on are of a class -/
def runN (p : UInt8 → Bool) (l : List UInt8) : Nat := (l.takeWhile p).length
theorem runN_le (p : UInt8 → Bool) (l : List UInt8) : runN p l ≤ l.length := by
  unfold runN
  exact (List.takeWhile_sublist p).length_le
theorem run_stop {p : UInt8 → Bool} {l : List UInt8} {k : Nat} (ha : (l.take k).all p = true) (hk : k ≤ l.length) (hs : ∀ h : k < l.length, p l[k] = false) : runN p l = k := by
  unfold runN
  have e : l = l.take k ++ l.drop k := (List.take_append_drop k l).symm
  rw [e, List.takeWhile_append_of_pos (by simpa [List.all_eq_true] using ha)]
  by_cases h : k < l.length
  · rw [List.drop_eq_getElem_cons h, List.takeWhile_cons, if_neg (by rw [hs h]; simp)]
    simp; omega
  · rw [List.drop_eq_nil_of_le (by omega)]
    simp; omega
set_option maxHeartbeats 2000000 in
theorem run_c (fn : FuncId) (p : UInt8 → Bool) (hfn : ∀ (a : Array Value) (w : World), (callFunc fn a).run Tryz.prog w = .ok (.enter fn a) w) (hp : ClassAt fn p) (s : ByteArray) (w : World) (hs : s.size ≤ 1000000) :
    Calls Tryz.prog 25 #[.string s, .func (.func fn) #[] #[]] w fun e w' => e = .returned (.int .i64 (runN p s.data.toList : Nat)) ∧ w = w' := by
  have HP := Lib.hid hp
  clear hp
  go_enter Tryz.func25, Tryz.ntmps25
  go_wp2_with fail
  go_loopw [5] (fun i wr => ∃ k : Nat, k ≤ s.size ∧ i = .int .i64 k ∧ w = wr ∧ (s.data.toList.take k).all p = true) (fun i _ => s.size - (intOf i).toNat)
  case atStart => exact ⟨0, Nat.zero_le _, rfl, rfl, by simp⟩
  case round =>
    obtain ⟨k, hk, rfl, rfl, hall⟩ := hrel
    have HA := Lib.hid hall
    clear hall
    have hlen : s.data.toList.length = s.size := by show s.data.toList.length = s.data.size; rw [Array.length_toList]
    by_cases hlt : k < s.size
    · have hltI : (k : Int) < (s.size : Int) := by omega
      cases hpk : p s[k]
      · go_wp2_with fail
        refine (HP.out s[k] _).mono ?_
        rintro e w1 ⟨rfl, rfl⟩
        rw [hpk]
        have hr : runN p s.data.toList = k := run_stop HA.out (by omega) (fun h => hpk)
        have HR := Lib.hid hr
        clear hr
        go_wp2
        go_ret
        exact ⟨by rw [HR.out]; rfl, rfl⟩
      · go_wp2_with fail
        refine (HP.out s[k] _).mono ?_
        rintro e w1 ⟨rfl, rfl⟩
        rw [hpk]
        have ha2 : (s.data.toList.take (k + 1)).all p = true := by
          rw [List.take_succ_eq_append_getElem (by omega), List.all_append, HA.out]
          simp only [List.all_cons, List.all_nil, Bool.and_true, Bool.true_and]
          exact hpk
        have HA2 := Lib.hid ha2
        clear ha2
        go_wp2
        exact ⟨⟨k + 1, by omega, by go_num, trivial, HA2.out⟩, by simp [intOf]; omega⟩
    · have hr : runN p s.data.toList = k := run_stop HA.out (by omega) (fun h => by omega)
      have HR := Lib.hid hr
      clear hr
      go_wp2
      go_ret
      exact ⟨by rw [HR.out]; rfl, rfl⟩
end Go.Proofs.YtlpgkldialmofaaGreatDoor
