/- merlonref03.Tokens: the example's own scan tells the same tokens. -/
import Derived.Test.YtlpgkldialmofaaGreatDoorLexT
namespace Go.Proofs.YtlpgkldialmofaaGreatDoor
open Go.RowKit
set_option linter.unusedSimpArgs false
set_option linter.unusedVariables false
def letterC (c : UInt8) : Bool := smallC c || greatC c
theorem letter_word {c : UInt8} (h : letterC c = true) : wordC c = true := by
  simp [letterC] at h
  rcases h with h | h
  · exact small_word h
  · exact great_word h
theorem letter_c : ClassAt 38 letterC := by
  intro c w
  go_enter Tryz.func38, Tryz.ntmps38
  go_wp2
  all_goals
    go_ret
    refine ⟨?_, rfl⟩
    (go_tidy; first | (simp_all [letterC, smallC, greatC]; done) | (simp_all [letterC, smallC, greatC]; omega) | (exfalso; simp_all [letterC, smallC, greatC]; omega))
theorem refDigit_c : ClassAt 39 digitC := by
  intro c w
  go_enter Tryz.func39, Tryz.ntmps39
  go_wp2
  all_goals
    go_ret
    refine ⟨?_, rfl⟩
    (go_tidy; first | (simp_all [digitC]; done) | (simp_all [digitC]; omega) | (exfalso; simp_all [digitC]; omega))
/-- from place k up to j all bytes are of a class -/
def RunAt (p : UInt8 → Bool) (s : ByteArray) (k j : Nat) : Prop := k ≤ j ∧ j ≤ s.size ∧ ∀ i (h : i < s.size), k ≤ i → i < j → p s[i] = true
theorem RunAt.one {p : UInt8 → Bool} {s : ByteArray} {k : Nat} (hk : k < s.size) (h : p s[k] = true) : RunAt p s k (k + 1) :=
  ⟨by omega, by omega, fun i hi h1 h2 => by obtain rfl : i = k := by omega
                                            exact h⟩
theorem RunAt.step {p : UInt8 → Bool} {s : ByteArray} {k j : Nat} (h : RunAt p s k j) (hj : j < s.size) (hp : p s[j] = true) : RunAt p s k (j + 1) :=
  ⟨by have := h.1; omega, by omega, fun i hi h1 h2 => by
    by_cases e : i = j
    · subst e; exact hp
    · exact h.2.2 i hi h1 (by omega)⟩
theorem RunAt.stop {p : UInt8 → Bool} {s : ByteArray} {k j : Nat} (h : RunAt p s k j) (hs : ∀ hj : j < s.size, p s[j] = false) : runN p (s.data.toList.drop k) = j - k := by
  obtain ⟨h1, h2, h3⟩ := h
  have hl : (s.data.toList.drop k).length = s.size - k := by rw [List.length_drop, len_data]
  have get : ∀ i (hi : i < (s.data.toList.drop k).length), (s.data.toList.drop k)[i] = s[k + i]'(by omega) := by
    intro i hi
    rw [List.getElem_drop]
    rfl
  refine run_stop ?_ (by omega) ?_
  · rw [List.all_eq_true]
    intro x hx
    obtain ⟨i, hi, rfl⟩ := List.getElem_of_mem hx
    rw [List.length_take] at hi
    rw [List.getElem_take, get i (by omega)]
    exact h3 _ _ (by omega) (by omega)
  · intro hj
    rw [get _ hj]
    have : ∀ q (hq : q < s.size), q = j → p s[q] = false := fun q hq e => by subst e; exact hs hq
    exact this _ _ (by omega)
theorem head_drop {s : ByteArray} {k : Nat} (hk : k < s.size) : ((s.data.toList.drop k).head?.map UInt8.toNat) = some s[k].toNat := by
  rw [drop_cons hk]; rfl
theorem head_none {s : ByteArray} {k : Nat} (hk : ¬ k < s.size) : ((s.data.toList.drop k).head?.map UInt8.toNat) = none := by
  rw [List.drop_eq_nil_of_le (by rw [len_data]; omega)]; rfl
/-- the classes that a byte is of, one behind the other -/
theorem first_small {s : ByteArray} {k : Nat} (hk : k < s.size) (h : smallC s[k] = true) : firstF (s.data.toList.drop k) = (1, runN wordC (s.data.toList.drop k)) := by
  rw [drop_cons hk, firstF_cons, if_pos h]
theorem first_great {s : ByteArray} {k : Nat} (hk : k < s.size) (h : smallC s[k] = false) (h2 : greatC s[k] = true) : firstF (s.data.toList.drop k) = (2, runN wordC (s.data.toList.drop k)) := by
  rw [drop_cons hk, firstF_cons, if_neg (by simp [h]), if_pos h2]
theorem first_digit {s : ByteArray} {k : Nat} (hk : k < s.size) (h : smallC s[k] = false) (h2 : greatC s[k] = false) (h3 : digitC s[k] = true) : firstF (s.data.toList.drop k) = (3, runN digitC (s.data.toList.drop k)) := by
  rw [drop_cons hk, firstF_cons, if_neg (by simp [h]), if_neg (by simp [h2]), if_pos h3]
theorem first_rest {s : ByteArray} {k : Nat} (hk : k < s.size) (h : smallC s[k] = false) (h2 : greatC s[k] = false) (h3 : digitC s[k] = false) : firstF (s.data.toList.drop k) =
    (if s[k].toNat = 45 ∧ ((s.data.toList.drop (k + 1)).head?.map UInt8.toNat) = some 62 then (4, 2)
    else if s[k].toNat = 46 ∧ ((s.data.toList.drop (k + 1)).head?.map UInt8.toNat) = some 46 then (4, 2)
    else if signB s[k] then (4, 1)
    else (0, 0)) := by
  rw [drop_cons hk, firstF_cons, if_neg (by simp [h]), if_neg (by simp [h2]), if_neg (by simp [h3])]
/-- what the call answers -/
def RefAns (s : ByteArray) (w : World) (e : Ending) (w' : World) : Prop :=
  Below w.heap.size w w' ∧ ((∃ ts sv, scanAll s = (ts, none) ∧ ts.length ≤ s.size ∧ e = .returned (.tuple #[sv, .int .i64 (-1)]) ∧ w'.ownsRow w.heap.size 48 3 sv ts.length (flatT ts)) ∨
    (∃ ts k, scanAll s = (ts, some k) ∧ k < s.size ∧ e = .returned (.tuple #[.slice none 0 0, .int .i64 (k : Nat)])))
end Go.Proofs.YtlpgkldialmofaaGreatDoor
