/- merlonlaw03.LexJoins: true. -/
import Derived.Test.YtbaoinofpiepmaaDoorUpT3
import Derived.Test.YtbaoinofpiepmaaDoorJoinL
namespace Go.Proofs.YtbaoinofpiepmaaDoor
open Go.RowKit
set_option linter.unusedSimpArgs false
set_option linter.unusedVariables false
/-- the first k texts joined -/
def joinK (xs : List ByteArray) (k : Nat) : ByteArray := ⟨(joinB (xs.take k)).toArray⟩
theorem joinK_zero (xs : List ByteArray) : joinK xs 0 = { data := #[] } := rfl
theorem ba_ext {a b : ByteArray} (h : a.data.toList = b.data.toList) : a = b := ByteArray.ext (Array.toList_inj.mp h)
theorem joinK_one (xs : List ByteArray) (h : 0 < xs.length) : joinK xs 1 = xs[0] := by
  obtain ⟨x, r, rfl⟩ := List.exists_cons_of_length_pos h
  apply ba_ext
  show (joinB ((x :: r).take 1)) = x.data.toList
  simp [joinB, Lib.join_one]
theorem joinK_succ (xs : List ByteArray) (k : Nat) (hk : k < xs.length) (h0 : 0 < k) : joinK xs (k + 1) = joinK xs k ++ { data := #[32] } ++ xs[k] := by
  obtain ⟨x, r, rfl⟩ := List.exists_cons_of_length_pos (show 0 < xs.length by omega)
  obtain ⟨j, rfl⟩ : ∃ j, k = j + 1 := ⟨k - 1, by omega⟩
  have hj : j < r.length := by simpa using hk
  apply ba_ext
  show (joinB ((x :: r).take (j + 1 + 1))) = (joinK (x :: r) (j + 1) ++ { data := #[32] } ++ r[j]).data.toList
  have e : (joinK (x :: r) (j + 1) ++ { data := #[32] } ++ r[j]).data.toList = joinB ((x :: r).take (j + 1)) ++ [32] ++ r[j].data.toList := by
    simp [joinK]
  rw [e]
  simp only [joinB, List.take_succ_cons, List.map_cons, List.map_take, Lib.join_cons]
  rw [Lib.joinTail_take_succ _ _ _ r[j].data.toList (by simp [hj])]
  simp
theorem joinK_size (xs : List ByteArray) : ∀ k, k ≤ xs.length → (∀ i (h : i < xs.length), i < k → xs[i].size ≤ 1000) → (joinK xs k).size ≤ 1001 * k
  | 0, _, _ => by rw [joinK_zero]; exact Nat.zero_le _
  | 1, hk, h => by
    rw [joinK_one xs (by omega)]
    have := h 0 (by omega) (by omega)
    omega
  | k + 2, hk, h => by
    rw [joinK_succ xs (k + 1) (by omega) (by omega)]
    have ih := joinK_size xs (k + 1) (by omega) (fun i hi h1 => h i hi (by omega))
    have := h (k + 1) (by omega) (by omega)
    simp only [ByteArray.size_append]
    have : ({ data := #[32] } : ByteArray).size = 1 := rfl
    omega
theorem joinK_all (xs : List ByteArray) : joinK xs xs.length = ⟨(joinB xs).toArray⟩ := by rw [joinK, List.take_length]
set_option maxRecDepth 100000 in
set_option maxHeartbeats 4000000 in
theorem lexJoins_c (xs : List ByteArray) (v : Value) (w : World) (hg : HandleAt w) (h : TextAt w v xs) : Calls Tryd.prog 5 #[v] w fun e w' => e = .returned (.bool true) ∧ Below w.heap.size w w' := by
  obtain ⟨p, cap, rfl, h⟩ := h
  have H := Lib.hid h
  clear h
  go_enter Tryd.func5, Tryd.ntmps5
  go_wp2_with fail
  refine (up_c w hg).mono ?_
  rintro e w1 ⟨rfl, hb1⟩
  clear hg
  by_cases hl : xs.length ≤ 500
  rotate_left
  · have hlI : (500 : Int) < (xs.length : Int) := by omega
    go_wp2_with fail
    go_ret
    exact ⟨rfl, hb1⟩
  have hlI : ¬ (500 : Int) < (xs.length : Int) := by omega
  go_wp2_with fail
  go_loopw [4, 5] (fun s i wr => ∃ k : Nat, k ≤ xs.length ∧ i = .int .i64 k ∧ s = .string (joinK xs k) ∧ wr = w1 ∧ ∀ i (h : i < xs.length), i < k → xs[i].size ≤ 1000) (fun _ i _ => xs.length - (intOf i).toNat)
  case atStart => exact ⟨0, Nat.zero_le _, rfl, rfl, rfl, fun i _ h => by omega⟩
  case round =>
    obtain ⟨k, hk, rfl, rfl, rfl, hall⟩ := hrel
    have hsz := joinK_size xs k hk hall
    have HA := Lib.hid hall
    clear hall
    by_cases hlt : k < xs.length
    · have hltI : (k : Int) < (xs.length : Int) := by omega
      obtain ⟨b, o, rfl, hbl, g⟩ := H.out (by omega)
      obtain ⟨-, -, d2⟩ := g k hlt
      rw [← hb1.cell (p := ⟨b, _, none⟩) hbl] at d2
      clear g
      by_cases hx : xs[k].size ≤ 1000
      rotate_left
      · have hxI : (1000 : Int) < (xs[k].size : Int) := by omega
        go_wp2_with fail
        go_ret
        exact ⟨rfl, hb1⟩
      have hxI : ¬ (1000 : Int) < (xs[k].size : Int) := by omega
      have ha2 : ∀ i (h : i < xs.length), i < k + 1 → xs[i].size ≤ 1000 := fun i hi h1 => by
        rcases Nat.lt_succ_iff_lt_or_eq.1 h1 with h2 | rfl
        · exact HA.out i hi h2
        · exact hx
      have HA2 := Lib.hid ha2
      clear ha2
      by_cases h0 : 0 < k
      · have h0I : (0 : Int) < (k : Int) := by omega
        have hs := Lib.hid (joinK_succ xs k hlt h0)
        obtain ⟨J, hJ⟩ : ∃ J, joinK xs k = J := ⟨_, rfl⟩
        rw [hJ] at hsz hs ⊢
        obtain ⟨X, hX⟩ : ∃ X, xs[k] = X := ⟨_, rfl⟩
        rw [hX] at hx hs d2
        clear hJ hX hxI
        have hxI : ¬ (1000 : Int) < (X.size : Int) := by omega
        go_wp2_with fail
        exact ⟨⟨k + 1, by omega, by go_num, by rw [hs.out], trivial, HA2.out⟩, by simp [intOf]; omega⟩
      · have h0I : ¬ (0 : Int) < (k : Int) := by omega
        obtain rfl : k = 0 := by omega
        have hs := Lib.hid (joinK_one xs hlt)
        rw [joinK_zero]
        clear hsz
        obtain ⟨X, hX⟩ : ∃ X, xs[0] = X := ⟨_, rfl⟩
        rw [hX] at hx hs d2
        clear hX hxI
        have hxI : ¬ (1000 : Int) < (X.size : Int) := by omega
        go_wp2_with fail
        exact ⟨⟨0 + 1, by omega, by go_num, by rw [hs.out]; first | rfl | simp | exact ByteArray.empty_append, trivial, HA2.out⟩, by simp [intOf]; omega⟩
    · have hke : k = xs.length := by omega
      subst hke
      have hlt2 : ¬ (xs.length : Int) < (xs.length : Int) := by omega
      have ha := Lib.hid (joinK_all xs)
      have hjl : (joinB xs).length ≤ 140737488355328 := by
        have e : (joinB xs).length = (joinK xs xs.length).size := by rw [joinK_all]; rfl
        omega
      have hT : TextAt wr (.slice p xs.length cap) xs := TextAt.under ⟨p, cap, rfl, H.out⟩ hb1
      have HT := Lib.hid hT
      clear hT hsz HA
      rw [ha.out]
      go_wp2_with (go_at_call 16; refine (lexJoin_c xs _ _ HT.out hl hjl).mono ?_; rintro e w4 ⟨rfl, hb4⟩)
      go_ret
      exact ⟨by simp, hb1.trans (hb4.mono hb1.size)⟩
end Go.Proofs.YtbaoinofpiepmaaDoor
