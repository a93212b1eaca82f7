/- The contracts of merlonref08.Find and There. -/
import Derived.Test.YtjeldfipipkfiaaGreatDoorExE
import Derived.Test.YtjeldfipipkfiaaGreatDoorRfRow
namespace Go.Proofs.YtjeldfipipkfiaaGreatDoor
open Go.RowKit
set_option linter.unusedSimpArgs false
set_option linter.unusedVariables false
def posE (l : List If) (s : Imp) : Int := match l.findIdx? (isIf s) with
  | some i => (i : Nat)
  | none => -1
theorem posE_hit {l : List If} {s : Imp} {k : Nat} (hk : k < l.length) (h : ∀ i (h : i < l.length), i < k → isIf s l[i] = false) (h2 : isIf s l[k] = true) : posE l s = (k : Nat) := by
  have : l.findIdx? (isIf s) = some k := by
    rw [List.findIdx?_eq_some_iff_getElem]
    exact ⟨hk, h2, fun j hj => by simp [h j (by omega) hj]⟩
  rw [posE, this]
theorem posE_miss {l : List If} {s : Imp} (h : ∀ i (h : i < l.length), isIf s l[i] = false) : posE l s = -1 := by
  have : l.findIdx? (isIf s) = none := by
    rw [List.findIdx?_eq_none_iff]
    intro x hx
    obtain ⟨i, hi, rfl⟩ := List.getElem_of_mem hx
    exact h i hi
  rw [posE, this]
set_option maxRecDepth 100000 in
set_option maxHeartbeats 40000000 in
theorem refFind_c (A : Option Addr) (c B : Nat) (l : List If) (s : Imp) (w : World) (h1 : IfsAt w B A l) (hB : B ≤ w.heap.size) (hl : l.length ≤ 1000000) :
    Calls Tryz.prog 28 #[.slice A l.length c, .string s.pkg, .int .i64 s.major, .string s.mod] w fun e w' => e = .returned (.int .i64 (posE l s)) ∧ w' = w := by
  obtain ⟨q, hq⟩ : ∃ q, posE l s = q := ⟨_, rfl⟩
  rw [hq]
  have HQ := Lib.hid hq
  have H1 := Lib.hid h1
  clear h1 hq
  go_enter Tryz.func28, Tryz.ntmps28
  go_wp2_with fail
  go_loop [9] (fun i => ∃ k : Nat, i = .int .i64 k ∧ k ≤ l.length ∧ ∀ i (h : i < l.length), i < k → isIf s l[i] = false) (fun i => l.length - (intOf i).toNat)
  case atStart => exact ⟨0, rfl, Nat.zero_le _, fun i _ hi => absurd hi (by omega)⟩
  case round =>
    obtain ⟨k, rfl, hk, hall⟩ := hrel
    have HA := Lib.hid hall
    clear hall
    by_cases hlt : k < l.length
    · have hltI : (k : Int) < (l.length : Int) := by omega
      obtain ⟨x, hx⟩ : ∃ x, l[k] = x := ⟨_, rfl⟩
      obtain ⟨fx, b, o, ta, tc, va, vc, rfl, hbB, -, -, -, -, c0, c1, c2, -⟩ := H1.out.elem hlt hx
      have hbw : b < w.heap.size := by omega
      have HX := Lib.hid hx
      obtain ⟨t1, ht1⟩ : ∃ t, (x.pkg.toList == s.pkg.toList) = t := ⟨_, rfl⟩
      obtain ⟨t2, ht2⟩ : ∃ t, (x.major == s.major) = t := ⟨_, rfl⟩
      obtain ⟨t3, ht3⟩ : ∃ t, (x.mod.toList == s.mod.toList) = t := ⟨_, rfl⟩
      have HT := Lib.hid (show isIf s x = (t1 && (t2 && t3)) by rw [isIf, ht1, ht2, ht3])
      clear hx fx
      cases t1 <;> cases t2 <;> cases t3
      all_goals
        first
          | (have hr := HQ.out.symm.trans (posE_hit hlt HA.out (by rw [HX.out, HT.out]; rfl))
             subst hr
             go_wp2_with fail
             go_ret
             exact ⟨rfl, rfl⟩)
          | (go_wp2_with fail
             exact ⟨⟨k + 1, by go_num, by omega, fun i hi hik => by
               by_cases e : i = k
               · subst e; rw [HX.out, HT.out]; rfl
               · exact HA.out i hi (by omega)⟩, by simp [intOf]; omega⟩)
    · obtain rfl : k = l.length := by omega
      have hltI : ¬ (l.length : Int) < (l.length : Int) := by omega
      have hr := HQ.out.symm.trans (posE_miss fun i hi => HA.out i hi hi)
      subst hr
      go_wp2_with fail
      go_ret
      exact ⟨rfl, rfl⟩
end Go.Proofs.YtjeldfipipkfiaaGreatDoor
