/- merlonlaw01.SemverBack returns true; the premises: a text of less than 4294967281 bytes; the library's number MaxLen reads as some int; strconv's table is as the program lays it. -/
import Derived.Test.YtlpgkldialmofaaGreatDoorLawVT
import Derived.Deep.CutBlock
namespace Go.Proofs.YtlpgkldialmofaaGreatDoor
open Go.RowKit
set_option linter.unusedSimpArgs false
set_option linter.unusedVariables false
theorem par_text {a b c : Int} (h : mayB a b c = true) : parseF (verS a b c).data.toList = some (a, b, c) := by
  have hb := may_bounds h
  rw [verS_data]
  have e : ((a.toNat : Nat) : Int) = a ∧ ((b.toNat : Nat) : Int) = b ∧ ((c.toNat : Nat) : Int) = c := by omega
  have := parse_text (a := a.toNat) (b := b.toNat) (c := c.toNat) (by rw [e.1, e.2.1, e.2.2, okF_may]; exact h)
  rw [e.1, e.2.1, e.2.2] at this
  exact this
theorem par_back {s : ByteArray} {V : Int × Int × Int} (h : parseF s.data.toList = some V) : mayB V.1 V.2.1 V.2.2 = true ∧ verS V.1 V.2.1 V.2.2 = s := by
  obtain ⟨h1, h2⟩ := text_parse h
  rw [okF_may] at h1
  refine ⟨h1, ?_⟩
  apply ByteArray.ext
  apply Array.toList_inj.mp
  rw [verS_data, ← h2]
theorem verS_size {a b c : Int} (h : mayB a b c = true) : (verS a b c).size ≤ 29 := by
  have hb := may_bounds h
  have h1 := digS_size (n := a) (by omega)
  have h2 := digS_size (n := b) (by omega)
  have h3 := digS_size (n := c) (by omega)
  rw [verS]
  simp only [ByteArray.size_append, point_size]
  omega
/-- what was told before step k -/
def WasAt (a b c x y z : Int) (k : Nat) : Prop := (k ≤ 3 → x = a) ∧ (k ≤ 2 → y = b) ∧ (k ≤ 1 → z = c)
theorem next_some {a b c s : Int} (h : nextE a b c s = 0) : nextV a b c s = stepV a b c s ∧ 1 ≤ s ∧ s ≤ 3 := by
  refine ⟨by rw [nextV, if_pos h], ?_⟩
  unfold nextE at h
  split at h
  · cases h
  · rename_i hn
    simp only [not_or] at hn
    omega
theorem was_step {a b c x y z : Int} {k : Nat} (hw : WasAt a b c x y z k) (h1 : 1 ≤ k) (h3 : k ≤ 3) : cmpV (stepV a b c k).1 (stepV a b c k).2.1 (stepV a b c k).2.2 x y z = 1 ∧ cmpV a b c (stepV a b c k).1 (stepV a b c k).2.1 (stepV a b c k).2.2 = -1 ∧ WasAt a b c (stepV a b c k).1 (stepV a b c k).2.1 (stepV a b c k).2.2 (k + 1) := by
  obtain ⟨h4, h5, h6⟩ := hw
  have c1 : ∀ u : Int, cmpI u u = 0 := fun u => by simp [cmpI]
  have c2 : ∀ u : Int, cmpI (u + 1) u = 1 := fun u => by rw [cmpI, if_neg (by omega), if_pos (by omega)]
  have c3 : ∀ u : Int, cmpI u (u + 1) = -1 := fun u => by rw [cmpI, if_pos (by omega)]
  rcases (show k = 1 ∨ k = 2 ∨ k = 3 by omega) with rfl | rfl | rfl
  · obtain rfl := h4 (by omega)
    obtain rfl := h5 (by omega)
    obtain rfl := h6 (by omega)
    refine ⟨?_, ?_, ?_⟩
    · simp [stepV, cmpV, c1, c2, orI]
    · simp [stepV, cmpV, c1, c3, orI]
    · simp [stepV, WasAt]
  · obtain rfl := h4 (by omega)
    obtain rfl := h5 (by omega)
    refine ⟨?_, ?_, ?_⟩
    · simp [stepV, cmpV, c1, c2, orI]
    · simp [stepV, cmpV, c1, c3, orI]
    · simp [stepV, WasAt]
  · obtain rfl := h4 (by omega)
    refine ⟨?_, ?_, ?_⟩
    · simp [stepV, cmpV, c1, c2, orI]
    · simp [stepV, cmpV, c1, c3, orI]
    · simp [stepV, WasAt]
theorem WasAt.more {a b c x y z : Int} {k : Nat} (h : WasAt a b c x y z k) : WasAt a b c x y z (k + 1) := ⟨fun h' => h.1 (by omega), fun h' => h.2.1 (by omega), fun h' => h.2.2 (by omega)⟩
theorem errV_ne {k : Int} (h : k ≠ 0) : errV k = .iface 32 (.int .i64 k) := by rw [errV, if_neg h]
end Go.Proofs.YtlpgkldialmofaaGreatDoor
