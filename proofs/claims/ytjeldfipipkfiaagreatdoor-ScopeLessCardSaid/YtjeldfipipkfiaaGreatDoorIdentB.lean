/- The contracts of ident.Small, ident.Great and of merlonref02; the plain laws on names; no condition but that a text is no longer than a Go text can be. -/
import Derived.Test.YtjeldfipipkfiaaGreatDoorIdent
namespace Go.Proofs.YtjeldfipipkfiaaGreatDoor
open Go.RowKit
def headC (p : UInt8 → Bool) (s : ByteArray) : Bool := match s.data.toList with | [] => false | c :: _ => p c
theorem headC_at (p : UInt8 → Bool) (s : ByteArray) (h : 0 < s.size) : headC p s = p s[0] := by
  have e : s.data.toList = s[0] :: s.data.toList.drop 1 := by
    have := List.drop_eq_getElem_cons (l := s.data.toList) (i := 0) (by simpa using h)
    rw [List.drop_zero] at this
    rw [this]; rfl
  unfold headC
  rw [e]
theorem letters_pos (g : Bool) (s : ByteArray) (h : letters g s.data.toList = true) : 0 < s.size := by
  have hz : s.data.toList.length = s.size := Array.length_toList
  simp only [letters, Bool.and_eq_true, decide_eq_true_eq, hz] at h
  omega
def tyB (s : ByteArray) : Bool := (s.toList == [73, 110, 116]) || (s.toList == [84, 101, 120, 116]) || (s.toList == [66, 111, 111, 108]) || (s.toList == [76, 105, 115, 116])
def smallB (s : ByteArray) : Bool := letters false s.data.toList && headC smallC s && !keyB s
def greatB (s : ByteArray) : Bool := letters true s.data.toList && headC greatC s && !tyB s
theorem Small_c (s : ByteArray) (w : World) (hs : s.size ≤ maxLen) : Calls Tryz.prog 69 #[.string s] w fun e w' => e = .returned (.bool (smallB s)) ∧ Below w.heap.size w w' := by
  cases hl : letters false s.data.toList
  · go_enter Tryz.func69, Tryz.ntmps69
    go_wp2_with (go_at_call 121; refine (word_c _ _ _ hs).mono ?_; rintro e w' ⟨rfl, rfl⟩)
    go_ret
    exact ⟨ret_b (by simp [smallB, hl]), Below.refl _ _⟩
  · have hp := letters_pos _ _ hl
    have hh := Lib.hid (headC_at smallC s hp)
    cases hc : smallC s[0]
    · go_enter Tryz.func69, Tryz.ntmps69
      go_wp2_with (first
        | (go_at_call 121; refine (word_c _ _ _ hs).mono ?_; rintro e w' ⟨rfl, rfl⟩)
        | (go_at_call 122; refine (small_c _ _).mono ?_; rintro e w' ⟨rfl, rfl⟩))
      go_ret
      exact ⟨ret_b (by simp [smallB, hh.out, hc]), Below.refl _ _⟩
    · go_enter Tryz.func69, Tryz.ntmps69
      go_wp2_with (first
        | (go_at_call 121; refine (word_c _ _ _ hs).mono ?_; rintro e w' ⟨rfl, rfl⟩)
        | (go_at_call 122; refine (small_c _ _).mono ?_; rintro e w' ⟨rfl, rfl⟩)
        | (go_at_call 123; refine (key_c _ _).mono ?_; rintro e w' ⟨rfl, rfl⟩))
      go_ret
      exact ⟨ret_b (by simp [smallB, hh.out, hc, hl]), (Below.refl _ _).alloc (Nat.le_refl _) _⟩
theorem Great_c (s : ByteArray) (w : World) (hs : s.size ≤ maxLen) : Calls Tryz.prog 136 #[.string s] w fun e w' => e = .returned (.bool (greatB s)) ∧ w = w' := by
  cases hl : letters true s.data.toList
  · go_enter Tryz.func136, Tryz.ntmps136
    go_wp2_with (go_at_call 121; refine (word_c _ _ _ hs).mono ?_; rintro e w' ⟨rfl, rfl⟩)
    go_ret
    exact ⟨ret_b (by simp [greatB, hl]), rfl⟩
  · have hp := letters_pos _ _ hl
    have hh := Lib.hid (headC_at greatC s hp)
    cases hc : greatC s[0]
    · go_enter Tryz.func136, Tryz.ntmps136
      go_wp2_with (first
        | (go_at_call 121; refine (word_c _ _ _ hs).mono ?_; rintro e w' ⟨rfl, rfl⟩)
        | (go_at_call 186; refine (great_c _ _).mono ?_; rintro e w' ⟨rfl, rfl⟩))
      go_ret
      exact ⟨ret_b (by simp [greatB, hh.out, hc]), rfl⟩
    · have HG := Lib.hid (show greatB s = !tyB s by simp [greatB, hl, hh.out, hc])
      clear hh
      go_enter Tryz.func136, Tryz.ntmps136
      go_wp2_with (first
        | (go_at_call 121; refine (word_c _ _ _ hs).mono ?_; rintro e w' ⟨rfl, rfl⟩)
        | (go_at_call 186; refine (great_c _ _).mono ?_; rintro e w' ⟨rfl, rfl⟩))
      all_goals
        go_ret
        refine ⟨ret_b ?_, rfl⟩
        rw [HG.out]
        simp [tyB, *]
theorem keys_cell (w : World) (k : Nat) (hk : k < keyWords.length) : (w.alloc (.cells #[.string ⟨#[97, 115]⟩, .string ⟨#[97, 108, 105, 97, 115]⟩, .string ⟨#[100, 101, 112]⟩, .string ⟨#[104, 105, 100, 100, 101, 110]⟩, .string ⟨#[105, 109, 112, 111, 114, 116]⟩, .string ⟨#[105, 115]⟩, .string ⟨#[109, 111, 100, 117, 108, 101]⟩, .string ⟨#[111, 112, 97, 113, 117, 101]⟩, .string ⟨#[112, 97, 99, 107, 97, 103, 101]⟩, .string ⟨#[117, 115, 101]⟩, .string ⟨#[118, 97, 108]⟩, .string ⟨#[118, 101, 114, 115, 105, 111, 110]⟩] 9)).cell? ⟨w.heap.size, k, none⟩ = some (.string keyWords[k]) := by
  show (w.alloc (.cells (keyWords.map Value.string).toArray 9)).cell? ⟨w.heap.size, k, none⟩ = _
  rw [World.cell?_alloc_new, List.getElem?_toArray, List.getElem?_map, List.getElem?_eq_getElem hk]; rfl
theorem rKey_c (s : ByteArray) (w : World) : Calls Tryz.prog 113 #[.string s] w fun e w' => e = .returned (.bool (keyB s)) ∧ w.alloc (.cells (keyWords.map Value.string).toArray 9) = w' := by
  have hK : keyWords.length = 12 := rfl
  have HK := Lib.hid hK
  clear hK
  go_enter Tryz.func113, Tryz.ntmps113
  go_wp2
  go_loop [4] (fun i => ∃ k : Nat, k ≤ 12 ∧ i = .int .i64 k ∧ ∀ j (hj : j < k) (hj' : j < keyWords.length), keyWords[j] ≠ s) (fun i => 12 - (intOf i).toNat)
  case atStart => exact ⟨0, Nat.zero_le _, rfl, fun j hj => absurd hj (by omega)⟩
  case round =>
    obtain ⟨k, hk, rfl, hall⟩ := hrel
    have H := Lib.hid hall
    clear hall
    by_cases hlt : k < 12
    · have hkl : k < keyWords.length := by rw [HK.out]; exact hlt
      have hck := keys_cell w k hkl
      by_cases he : keyWords[k] = s
      · have hq := ba_yes he
        have HE := Lib.hid he
        clear he
        go_wp2
        go_ret
        refine ⟨ret_b ?_, rfl⟩
        have : s ∈ keyWords := by rw [← HE.out]; exact List.getElem_mem hkl
        exact ((memB_iff s keyWords).2 this).symm
      · have hq := ba_no he
        have HE := Lib.hid he
        clear he
        go_wp2
        refine ⟨⟨k + 1, by omega, by go_num, fun j hj hj' => ?_⟩, by simp [intOf]; omega⟩
        by_cases e : j = k
        · subst e; exact HE.out
        · exact H.out j (by omega) hj'
    · go_wp2
      go_ret
      refine ⟨ret_b ?_, rfl⟩
      have : ¬ s ∈ keyWords := fun hm => by
        obtain ⟨j, hj, e⟩ := List.getElem_of_mem hm
        exact H.out j (by have := HK.out; omega) hj e
      rw [Bool.eq_iff_iff]
      simp only [keyB, memB_iff, this]
      simp
theorem letters_true (s : ByteArray) (w : World) (hs : s.size ≤ maxLen) : Calls Tryz.prog 112 #[.string s, .bool true] w fun e w' => e = .returned (.bool (letters true s.data.toList)) ∧ w = w' := by
  unfold maxLen at hs
  by_cases hz : 1 ≤ s.size ∧ s.size ≤ 20
  · obtain ⟨hz1, hz2⟩ := hz
    go_enter Tryz.func112, Tryz.ntmps112
    go_wp2
    go_loop [5] (fun i => ∃ k : Nat, k ≤ s.size ∧ i = .int .i64 k ∧ (s.data.toList.take k).all (letC true) = true) (fun i => s.size - (intOf i).toNat)
    case atStart => exact ⟨0, Nat.zero_le _, rfl, rfl⟩
    case round =>
      obtain ⟨k, hk, rfl, hall⟩ := hrel
      have H := Lib.hid hall
      clear hall
      by_cases hlt : k < s.size
      · go_wp2
        all_goals first
          | (go_ret
             exact ⟨ret_b (letters_bad s _ k hlt (by (go_tidy; first | (simp_all [letC, digitC, smallC, greatC]; done) | (simp_all [letC, digitC, smallC, greatC]; omega) | (exfalso; simp_all [letC, digitC, smallC, greatC]; omega)))).symm, rfl⟩)
          | (refine ⟨⟨k + 1, by omega, by go_num, ?_⟩, by simp [intOf]; omega⟩
             rw [take_all_succ s k hlt, H.out]
             (go_tidy; first | (simp_all [letC, digitC, smallC, greatC]; done) | (simp_all [letC, digitC, smallC, greatC]; omega) | (exfalso; simp_all [letC, digitC, smallC, greatC]; omega)))
          | (go_round
             case rel =>
               refine ⟨k + 1, by omega, by go_num, ?_⟩
               rw [take_all_succ s k hlt, H.out]
               (go_tidy; first | (simp_all [letC, digitC, smallC, greatC]; done) | (simp_all [letC, digitC, smallC, greatC]; omega) | (exfalso; simp_all [letC, digitC, smallC, greatC]; omega))
             case measure => simp [intOf]; omega)
      · have hl : s.data.toList.take k = s.data.toList := List.take_of_length_le (by rw [Array.length_toList]; show s.size ≤ k; omega)
        rw [hl] at H
        go_wp2
        go_ret
        refine ⟨ret_b ?_, rfl⟩
        have hsz : s.data.size = s.size := rfl
        simp [letters, H.out, hsz, hz1, hz2]
  · have hbad : letters true s.data.toList = false := by
      have hsz : s.data.size = s.size := rfl
      simp only [letters, Array.length_toList, hsz, Bool.and_eq_false_iff, decide_eq_false_iff_not]
      left; omega
    have HB := Lib.hid hbad
    clear hbad
    by_cases h1 : s.size < 1
    all_goals
      have h20 : 20 < s.size ∨ s.size < 1 := by omega
      go_enter Tryz.func112, Tryz.ntmps112
      go_wp2
      go_ret
      exact ⟨ret_b HB.out.symm, rfl⟩
theorem letters_false (s : ByteArray) (w : World) (hs : s.size ≤ maxLen) : Calls Tryz.prog 112 #[.string s, .bool false] w fun e w' => e = .returned (.bool (letters false s.data.toList)) ∧ w = w' := by
  unfold maxLen at hs
  by_cases hz : 1 ≤ s.size ∧ s.size ≤ 20
  · obtain ⟨hz1, hz2⟩ := hz
    go_enter Tryz.func112, Tryz.ntmps112
    go_wp2
    go_loop [5] (fun i => ∃ k : Nat, k ≤ s.size ∧ i = .int .i64 k ∧ (s.data.toList.take k).all (letC false) = true) (fun i => s.size - (intOf i).toNat)
    case atStart => exact ⟨0, Nat.zero_le _, rfl, rfl⟩
    case round =>
      obtain ⟨k, hk, rfl, hall⟩ := hrel
      have H := Lib.hid hall
      clear hall
      by_cases hlt : k < s.size
      · go_wp2
        all_goals first
          | (go_ret
             exact ⟨ret_b (letters_bad s _ k hlt (by (go_tidy; first | (simp_all [letC, digitC, smallC, greatC]; done) | (simp_all [letC, digitC, smallC, greatC]; omega) | (exfalso; simp_all [letC, digitC, smallC, greatC]; omega)))).symm, rfl⟩)
          | (refine ⟨⟨k + 1, by omega, by go_num, ?_⟩, by simp [intOf]; omega⟩
             rw [take_all_succ s k hlt, H.out]
             (go_tidy; first | (simp_all [letC, digitC, smallC, greatC]; done) | (simp_all [letC, digitC, smallC, greatC]; omega) | (exfalso; simp_all [letC, digitC, smallC, greatC]; omega)))
          | (go_round
             case rel =>
               refine ⟨k + 1, by omega, by go_num, ?_⟩
               rw [take_all_succ s k hlt, H.out]
               (go_tidy; first | (simp_all [letC, digitC, smallC, greatC]; done) | (simp_all [letC, digitC, smallC, greatC]; omega) | (exfalso; simp_all [letC, digitC, smallC, greatC]; omega))
             case measure => simp [intOf]; omega)
      · have hl : s.data.toList.take k = s.data.toList := List.take_of_length_le (by rw [Array.length_toList]; show s.size ≤ k; omega)
        rw [hl] at H
        go_wp2
        go_ret
        refine ⟨ret_b ?_, rfl⟩
        have hsz : s.data.size = s.size := rfl
        simp [letters, H.out, hsz, hz1, hz2]
  · have hbad : letters false s.data.toList = false := by
      have hsz : s.data.size = s.size := rfl
      simp only [letters, Array.length_toList, hsz, Bool.and_eq_false_iff, decide_eq_false_iff_not]
      left; omega
    have HB := Lib.hid hbad
    clear hbad
    by_cases h1 : s.size < 1
    all_goals
      have h20 : 20 < s.size ∨ s.size < 1 := by omega
      go_enter Tryz.func112, Tryz.ntmps112
      go_wp2
      go_ret
      exact ⟨ret_b HB.out.symm, rfl⟩
theorem letters_c (s : ByteArray) (g : Bool) (w : World) (hs : s.size ≤ maxLen) : Calls Tryz.prog 112 #[.string s, .bool g] w fun e w' => e = .returned (.bool (letters g s.data.toList)) ∧ w = w' := by
  cases g
  · exact letters_false s w hs
  · exact letters_true s w hs
end Go.Proofs.YtjeldfipipkfiaaGreatDoor
