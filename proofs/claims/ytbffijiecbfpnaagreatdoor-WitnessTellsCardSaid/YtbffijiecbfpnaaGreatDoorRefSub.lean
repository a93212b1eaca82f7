/- The contracts of merlonref09.of and merlonref09.Sub. -/
import Derived.Test.YtbffijiecbfpnaaGreatDoorSubSub
import Derived.Test.YtbffijiecbfpnaaGreatDoorRefSame
namespace Go.Proofs.YtbffijiecbfpnaaGreatDoor
open Go.RowKit
set_option linter.unusedSimpArgs false
set_option linter.unusedVariables false
def ofI (l : List ByteArray) (s : ByteArray) : Int := if memB s l = true then (firstOf l s : Int) else -1
def findI : List ByteArray → ByteArray → Nat → Int
  | [], _, _ => -1
  | x :: l, s, k => if x = s then (k : Int) else findI l s (k + 1)
theorem findI_is (s : ByteArray) : ∀ (l : List ByteArray) (k : Nat), findI l s k = if memB s l = true then ((k + firstOf l s : Nat) : Int) else -1
  | [], k => by simp [findI, memB]
  | x :: l, k => by
    by_cases hx : x = s
    · simp [findI, memB, firstOf, hx]
    · have hx' : ¬ s = x := fun h => hx h.symm
      rw [findI, if_neg hx, findI_is s l (k + 1)]
      simp only [memB, firstOf, hx, hx', if_false, decide_false, Bool.false_or]
      split
      · congr 1; omega
      · rfl
set_option maxHeartbeats 1000000 in
theorem refOf_c (A : Option Addr) (c B : Nat) (l : List ByteArray) (s : ByteArray) (w : World) (hl : l.length ≤ 1000) (hr : StrsAt w B A l) :
    Calls Tryz.prog 81 #[.slice A l.length c, .string s] w fun e w' => e = .returned (.int .i64 (ofI l s)) ∧ w = w' := by
  have HR := Lib.hid hr
  have HE : Hid (ofI l s = findI l s 0) := Lib.hid (by rw [findI_is, ofI]; simp)
  clear hr
  go_enter Tryz.func81, Tryz.ntmps81
  go_wp2
  go_loopw [5] (fun i wr => ∃ k : Nat, k ≤ l.length ∧ i = .int .i64 k ∧ w = wr ∧ findI (l.drop k) s k = findI l s 0) (fun i _ => l.length - (intOf i).toNat)
  case atStart => exact ⟨0, Nat.zero_le _, rfl, rfl, rfl⟩
  case round =>
    obtain ⟨k, hk, rfl, rfl, heq⟩ := hrel
    have HQ := Lib.hid heq
    clear heq
    by_cases hlt : k < l.length
    · rcases HR.out with hr | ⟨b, o, rfl, hb, hc⟩
      · rw [hr] at hlt; simp at hlt
      have hck := hc k hlt
      have HD := Lib.hid (List.drop_eq_getElem_cons hlt)
      clear hc
      by_cases hx : l[k] = s
      · have hq := ba_yes hx
        have HX := Lib.hid hx
        clear hx
        go_wp2
        go_ret
        refine ⟨ret_i ?_, rfl⟩
        have h := HQ.out
        rw [HD.out, findI, if_pos HX.out] at h
        rw [HE.out, ← h]
      · have hq := ba_no hx
        have HX := Lib.hid hx
        clear hx
        go_wp2
        refine ⟨⟨k + 1, by omega, by go_num, trivial, ?_⟩, by simp [intOf]; omega⟩
        have h := HQ.out
        rwa [HD.out, findI, if_neg HX.out] at h
    · go_wp2
      go_ret
      refine ⟨ret_i ?_, rfl⟩
      have h := HQ.out
      rw [List.drop_of_length_le (by omega), findI] at h
      rw [HE.out, ← h]
end Go.Proofs.YtbffijiecbfpnaaGreatDoor
