/- The contracts of merlonref02.Small and Great, and the plain laws on names; no condition but that a text is no longer than a Go text can be. -/
import Derived.Test.YtjeldfipipkfiaaGreatDoorIdentB
namespace Go.Proofs.YtjeldfipipkfiaaGreatDoor
open Go.RowKit
theorem letters_head (g : Bool) (s : ByteArray) (h : letters g s.data.toList = true) (hp : 0 < s.size) : letC g s[0] = true := by
  simp only [letters, Bool.and_eq_true, List.all_eq_true] at h
  exact h.2 _ (by show s.data[0] ∈ _; simp)
theorem rSmall_c (s : ByteArray) (w : World) (hs : s.size ≤ maxLen) : Calls Tryz.prog 56 #[.string s] w fun e w' => e = .returned (.bool (smallB s)) ∧ Below w.heap.size w w' := by
  cases hl : letters false s.data.toList
  · go_enter Tryz.func56, Tryz.ntmps56
    go_wp2_with (first
      | (go_at_call 112; refine (letters_c _ _ _ hs).mono ?_; rintro e w' ⟨rfl, rfl⟩)
      | (go_at_call 113; refine (rKey_c _ _).mono ?_; rintro e w' ⟨rfl, rfl⟩))
    go_ret
    exact ⟨ret_b (by simp [smallB, hl]), (Below.refl _ _).alloc (Nat.le_refl _) _⟩
  · have hp := letters_pos _ _ hl
    have hh := letters_head _ _ hl hp
    have HG := Lib.hid (show smallB s = (smallC s[0] && !keyB s) by simp [smallB, hl, headC_at smallC s hp])
    cases hk : keyB s
    · by_cases hc : (97 : Int) ≤ (s[0].toNat : Int)
      all_goals
        have HH := Lib.hid hh
        have HK := Lib.hid hk
        clear hh
        go_enter Tryz.func56, Tryz.ntmps56
        go_wp2_with (first
          | (go_at_call 112; refine (letters_c _ _ _ hs).mono ?_; rintro e w' ⟨rfl, rfl⟩)
          | (go_at_call 113; refine (rKey_c _ _).mono ?_; rintro e w' ⟨rfl, rfl⟩))
        go_ret
        refine ⟨ret_b ?_, (Below.refl _ _).alloc (Nat.le_refl _) _⟩
        have h1 := HH.out
        rw [HG.out]
        simp only [letC, smallC, digitC, Bool.or_eq_true, Bool.and_eq_true, decide_eq_true_eq, Bool.false_and, Bool.or_false, HK.out, Bool.not_false, Bool.and_true] at h1 ⊢
        rw [Bool.eq_iff_iff]
        simp only [Bool.and_eq_true, decide_eq_true_eq]
        first | omega | (simp only [true_iff]; omega)
    · go_enter Tryz.func56, Tryz.ntmps56
      go_wp2_with (first
        | (go_at_call 112; refine (letters_c _ _ _ hs).mono ?_; rintro e w' ⟨rfl, rfl⟩)
        | (go_at_call 113; refine (rKey_c _ _).mono ?_; rintro e w' ⟨rfl, rfl⟩))
      go_ret
      exact ⟨ret_b (by rw [HG.out, hk]; simp), (Below.refl _ _).alloc (Nat.le_refl _) _⟩
theorem rGreat_c (s : ByteArray) (w : World) (hs : s.size ≤ maxLen) : Calls Tryz.prog 114 #[.string s] w fun e w' => e = .returned (.bool (greatB s)) ∧ w = w' := by
  cases hl : letters true s.data.toList
  · go_enter Tryz.func114, Tryz.ntmps114
    go_wp2_with (go_at_call 112; refine (letters_c _ _ _ hs).mono ?_; rintro e w' ⟨rfl, rfl⟩)
    go_ret
    exact ⟨ret_b (by simp [greatB, hl]), rfl⟩
  · have hp := letters_pos _ _ hl
    have HG := Lib.hid (show greatB s = (greatC s[0] && !tyB s) by simp [greatB, hl, headC_at greatC s hp])
    by_cases hc : (65 : Int) ≤ (s[0].toNat : Int)
    · by_cases hd : (s[0].toNat : Int) ≤ 90
      · have HC := Lib.hid (show greatC s[0] = true by simp only [greatC, Bool.and_eq_true, decide_eq_true_eq]; exact ⟨hc, hd⟩)
        go_enter Tryz.func114, Tryz.ntmps114
        go_wp2_with (go_at_call 112; refine (letters_c _ _ _ hs).mono ?_; rintro e w' ⟨rfl, rfl⟩)
        all_goals
          go_ret
          refine ⟨ret_b ?_, rfl⟩
          rw [HG.out, HC.out]
          simp [tyB, *]
      · have HC := Lib.hid (show greatC s[0] = false by simp only [greatC, Bool.and_eq_false_iff, decide_eq_false_iff_not]; exact .inr hd)
        go_enter Tryz.func114, Tryz.ntmps114
        go_wp2_with (go_at_call 112; refine (letters_c _ _ _ hs).mono ?_; rintro e w' ⟨rfl, rfl⟩)
        go_ret
        exact ⟨ret_b (by rw [HG.out, HC.out]; rfl), rfl⟩
    · have HC := Lib.hid (show greatC s[0] = false by simp only [greatC, Bool.and_eq_false_iff, decide_eq_false_iff_not]; exact .inl hc)
      go_enter Tryz.func114, Tryz.ntmps114
      go_wp2_with (go_at_call 112; refine (letters_c _ _ _ hs).mono ?_; rintro e w' ⟨rfl, rfl⟩)
      go_ret
      exact ⟨ret_b (by rw [HG.out, HC.out]; rfl), rfl⟩

/- plain laws on names -/
theorem small_not_great (s : ByteArray) (h1 : smallB s = true) (h2 : greatB s = true) : False := by
  simp only [smallB, greatB, Bool.and_eq_true] at h1 h2
  have hp := letters_pos _ _ h1.1.1
  have e1 := h1.1.2
  have e2 := h2.1.2
  rw [headC_at _ _ hp] at e1 e2
  simp only [smallC, greatC, Bool.and_eq_true, decide_eq_true_eq] at e1 e2
  omega
theorem key_not_small (s : ByteArray) (h : keyB s = true) : smallB s = false := by simp [smallB, h]
theorem key_not_great (s : ByteArray) (h : keyB s = true) : greatB s = false := by
  have hm := (memB_iff s keyWords).1 h
  simp only [keyWords, List.mem_cons, List.not_mem_nil, or_false] at hm
  rcases hm with h | h | h | h | h | h | h | h | h | h | h | h <;> subst h <;> decide
def snoc (s : ByteArray) (c : UInt8) : ByteArray := s ++ ⟨#[c]⟩
theorem snoc_list (s : ByteArray) (c : UInt8) : (snoc s c).data.toList = s.data.toList ++ [c] := by
  simp [snoc, ByteArray.data_append]
theorem letters_snoc (g : Bool) (s : ByteArray) (c : UInt8) (hc : smallC c = true) (hl : s.size < 20) (h : letters g s.data.toList = true) : letters g (snoc s c).data.toList = true := by
  have hz : s.data.toList.length = s.size := Array.length_toList
  rw [snoc_list]
  simp only [letters, Bool.and_eq_true, decide_eq_true_eq] at h ⊢
  refine ⟨⟨by simp, by simp only [List.length_append, hz, List.length_cons, List.length_nil]; omega⟩, ?_⟩
  rw [List.all_append, h.2]
  simp [letC, hc]
theorem head_snoc (p : UInt8 → Bool) (s : ByteArray) (c : UInt8) (h : headC p s = true) : headC p (snoc s c) = true := by
  unfold headC at h ⊢
  rw [snoc_list]
  cases hs : s.data.toList with
  | nil => rw [hs] at h; simp at h
  | cons d r => rw [hs] at h; simpa using h
theorem head_pos (p : UInt8 → Bool) (s : ByteArray) (h : headC p s = true) : 0 < s.size := by
  have hz : s.data.toList.length = s.size := Array.length_toList
  unfold headC at h
  cases hs : s.data.toList with
  | nil => rw [hs] at h; simp at h
  | cons d r => rw [hs] at hz; simp at hz; omega
theorem small_snoc (s : ByteArray) (c : UInt8) (hc : smallC c = true) (hl : s.size < 20) (h : smallB s = true) : smallB (snoc s c) = true ∨ keyB (snoc s c) = true := by
  simp only [smallB, Bool.and_eq_true] at h
  cases hk : keyB (snoc s c)
  · left
    simp only [smallB, letters_snoc false s c hc hl h.1.1, head_snoc _ s c h.1.2, hk]
    rfl
  · exact .inr rfl
theorem great_snoc (s : ByteArray) (c : UInt8) (hc : smallC c = true) (hl : s.size < 20) (h : greatB s = true) : greatB (snoc s c) = true ∨ tyB (snoc s c) = true := by
  simp only [greatB, Bool.and_eq_true] at h
  cases hk : tyB (snoc s c)
  · left
    simp only [greatB, letters_snoc true s c hc hl h.1.1, head_snoc _ s c h.1.2, hk]
    rfl
  · exact .inr rfl
def tyK (l : List UInt8) : Bool := l == [73, 110, 116] || l == [84, 101, 120, 116] || l == [66, 111, 111, 108] || l == [76, 105, 115, 116]
theorem greatB_eq (s : ByteArray) : greatB s = (letters true s.data.toList && headC greatC s && !tyK s.data.toList) := by
  simp only [greatB, tyB, tyK, ByteArray.toList_eq]
theorem key_b (s : ByteArray) (w : World) : Calls Tryz.prog 123 #[.string s] w fun e w' => e = .returned (.bool (keyB s)) ∧ Below w.heap.size w w' :=
  (key_c s w).mono fun _ _ ⟨he, hw⟩ => ⟨he, hw ▸ (Below.refl _ _).alloc (Nat.le_refl _) _⟩
theorem rKey_b (s : ByteArray) (w : World) : Calls Tryz.prog 113 #[.string s] w fun e w' => e = .returned (.bool (keyB s)) ∧ Below w.heap.size w w' :=
  (rKey_c s w).mono fun _ _ ⟨he, hw⟩ => ⟨he, hw ▸ (Below.refl _ _).alloc (Nat.le_refl _) _⟩
end Go.Proofs.YtjeldfipipkfiaaGreatDoor
