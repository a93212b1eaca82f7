/- The contracts of merlonref08.Of and of merlonref12.row; memory: a row of named types, a row of interfaces. -/
import Derived.Test.YtjeldfipipkfiaaGreatDoorNamesF
namespace Go.Proofs.YtjeldfipipkfiaaGreatDoor
open Go.RowKit
set_option linter.unusedSimpArgs false
set_option linter.unusedVariables false
def ofN (l : List Nm) (s : ByteArray) : Int := match l.findIdx? fun x => x.name.toList == s.toList with
  | some i => (i : Nat)
  | none => -1
theorem ofN_hit {l : List Nm} {s : ByteArray} {k : Nat} (hk : k < l.length) (h : ∀ i (h : i < l.length), i < k → (l[i].name.toList == s.toList) = false) (h2 : (l[k].name.toList == s.toList) = true) : ofN l s = (k : Nat) := by
  have : l.findIdx? (fun x => x.name.toList == s.toList) = some k := by
    rw [List.findIdx?_eq_some_iff_getElem]
    exact ⟨hk, h2, fun j hj => by simp [h j (by omega) hj]⟩
  rw [ofN, this]
theorem ofN_miss {l : List Nm} {s : ByteArray} (h : ∀ i (h : i < l.length), (l[i].name.toList == s.toList) = false) : ofN l s = -1 := by
  have : l.findIdx? (fun x => x.name.toList == s.toList) = none := by
    rw [List.findIdx?_eq_none_iff]
    intro x hx
    obtain ⟨i, hi, rfl⟩ := List.getElem_of_mem hx
    exact h i hi
  rw [ofN, this]
set_option maxHeartbeats 4000000 in
theorem refOfN_c (A : Option Addr) (c B : Nat) (l : List Nm) (s : ByteArray) (w : World) (h1 : NmsAt w B A l) (hB : B ≤ w.heap.size) (hl : l.length ≤ 1000) :
    Calls Tryz.prog 30 #[.slice A l.length c, .string s] w fun e w' => e = .returned (.int .i64 (ofN l s)) ∧ w' = w := by
  obtain ⟨q, hq⟩ : ∃ q, ofN l s = q := ⟨_, rfl⟩
  rw [hq]
  have HQ := Lib.hid hq
  have H1 := Lib.hid h1
  clear h1 hq
  go_enter Tryz.func30, Tryz.ntmps30
  go_wp2_with fail
  go_loop [5] (fun i => ∃ k : Nat, i = .int .i64 k ∧ k ≤ l.length ∧ ∀ i (h : i < l.length), i < k → (l[i].name.toList == s.toList) = false) (fun i => l.length - (intOf i).toNat)
  case atStart => exact ⟨0, rfl, Nat.zero_le _, fun i _ hi => absurd hi (by omega)⟩
  case round =>
    obtain ⟨k, rfl, hk, hall⟩ := hrel
    have HA := Lib.hid hall
    clear hall
    by_cases hlt : k < l.length
    · have hltI : (k : Int) < (l.length : Int) := by omega
      obtain ⟨x, hx⟩ : ∃ x, l[k] = x := ⟨_, rfl⟩
      obtain ⟨hns, b, o, na, nc, sa, sc, rfl, hbB, hty, c0, -⟩ := H1.out.elem hlt hx
      have hbw : b < w.heap.size := by omega
      have HX := Lib.hid hx
      obtain ⟨t, ht⟩ : ∃ t, (x.name.toList == s.toList) = t := ⟨_, rfl⟩
      have HT := Lib.hid ht
      clear hx
      cases t
      · go_wp2_with fail
        exact ⟨⟨k + 1, by go_num, by omega, fun i hi hik => by
          by_cases e : i = k
          · subst e; rw [HX.out]; exact HT.out
          · exact HA.out i hi (by omega)⟩, by simp [intOf]; omega⟩
      · have hr := HQ.out.symm.trans (ofN_hit hlt HA.out (by rw [HX.out]; exact HT.out))
        subst hr
        go_wp2_with fail
        go_ret
        exact ⟨rfl, rfl⟩
    · obtain rfl : k = l.length := by omega
      have hltI : ¬ (l.length : Int) < (l.length : Int) := by omega
      have hr := HQ.out.symm.trans (ofN_miss fun i hi => HA.out i hi hi)
      subst hr
      go_wp2_with fail
      go_ret
      exact ⟨rfl, rfl⟩
def selF (x : If) (o : Bool) : List Nm := if o = true then x.types else x.vals
end Go.Proofs.YtjeldfipipkfiaaGreatDoor
