/- The contracts of the packages ident and merlonref02, by walks, and the plain laws on names; no condition but that a text is no longer than a Go text can be. -/
import Derived.WalkKit
import Derived.WalkLawsBesides
import Derived.WalkSpells
import Derived.Handy
import Derived.Lib.Hide
import Derived.BigQuiet
import Derived.Test.YtjeldfipipkfiaaGreatProg
import Derived.Test.YtjeldfipipkfiaaGreatGMem
namespace Go.Proofs.YtjeldfipipkfiaaGreat
open Go.RowKit
def smallC (c : UInt8) : Bool := decide (97 ≤ (c.toNat : Int)) && decide ((c.toNat : Int) ≤ 122)
def greatC (c : UInt8) : Bool := decide (65 ≤ (c.toNat : Int)) && decide ((c.toNat : Int) ≤ 90)
def digitC (c : UInt8) : Bool := decide (48 ≤ (c.toNat : Int)) && decide ((c.toNat : Int) ≤ 57)
def letC (g : Bool) (c : UInt8) : Bool := smallC c || digitC c || (g && greatC c)
def letters (g : Bool) (s : List UInt8) : Bool := decide (1 ≤ s.length) && decide (s.length ≤ 20) && s.all (letC g)
theorem small_c (c : UInt8) (w : World) : Calls Tryz.prog 46 #[.int .u8 (c.toNat : Int)] w fun e w' => e = .returned (.bool (smallC c)) ∧ w = w' := by
  go_enter Tryz.func46, Tryz.ntmps46
  go_wp2
  all_goals
    go_ret
    refine ⟨?_, rfl⟩
    (go_tidy; first | (simp_all [smallC]; done) | (simp_all [smallC]; omega) | (exfalso; simp_all [smallC]; omega))
theorem great_c (c : UInt8) (w : World) : Calls Tryz.prog 57 #[.int .u8 (c.toNat : Int)] w fun e w' => e = .returned (.bool (greatC c)) ∧ w = w' := by
  go_enter Tryz.func57, Tryz.ntmps57
  go_wp2
  all_goals
    go_ret
    refine ⟨?_, rfl⟩
    (go_tidy; first | (simp_all [greatC]; done) | (simp_all [greatC]; omega) | (exfalso; simp_all [greatC]; omega))
theorem take_all_succ (s : ByteArray) (k : Nat) (h : k < s.size) (p : UInt8 → Bool) : (s.data.toList.take (k + 1)).all p = ((s.data.toList.take k).all p && p s[k]) := by
  have : s.data.toList.take (k + 1) = s.data.toList.take k ++ [s[k]] := by
    rw [List.take_succ_eq_append_getElem (by simpa using h)]; rfl
  rw [this, List.all_append]; simp
theorem letters_bad (s : ByteArray) (g : Bool) (k : Nat) (h : k < s.size) (hc : letC g s[k] = false) : letters g s.data.toList = false := by
  have : s.data.toList.all (letC g) = false := by
    rw [List.all_eq_false]
    exact ⟨s[k], by show s.data[k] ∈ _; simp, by simp [hc]⟩
  simp [letters, this]
theorem word_true (s : ByteArray) (w : World) (hs : s.size ≤ maxLen) : Calls Tryz.prog 45 #[.string s, .bool true] w fun e w' => e = .returned (.bool (letters true s.data.toList)) ∧ w = w' := by
  unfold maxLen at hs
  go_enter Tryz.func45, Tryz.ntmps45
  go_wp2
  go_loop [9] (fun i => ∃ k : Nat, k ≤ s.size ∧ i = .int .i64 k ∧ (s.data.toList.take k).all (letC true) = true) (fun i => s.size - (intOf i).toNat)
  case atStart => exact ⟨0, Nat.zero_le _, rfl, rfl⟩
  case round =>
    obtain ⟨k, hk, rfl, hall⟩ := hrel
    have H := Lib.hid hall
    clear hall
    by_cases hlt : k < s.size
    · go_wp2_with (first
        | (go_at_call 46; refine (small_c _ _).mono ?_; rintro e w' ⟨rfl, rfl⟩)
        | (go_at_call 57; refine (great_c _ _).mono ?_; rintro e w' ⟨rfl, rfl⟩))
      all_goals first
        | (go_ret
           exact ⟨ret_b (letters_bad s _ k hlt (by (go_tidy; first | (simp_all [letC, digitC]; done) | (simp_all [letC, digitC]; omega) | (exfalso; simp_all [letC, digitC]; omega)))).symm, rfl⟩)
        | (refine ⟨⟨k + 1, by omega, by go_num, ?_⟩, by simp [intOf]; omega⟩
           rw [take_all_succ s k hlt, H.out]
           (go_tidy; first | (simp_all [letC, digitC]; done) | (simp_all [letC, digitC]; omega) | (exfalso; simp_all [letC, digitC]; omega)))
        | (go_round
           case rel =>
             refine ⟨k + 1, by omega, by go_num, ?_⟩
             rw [take_all_succ s k hlt, H.out]
             (go_tidy; first | (simp_all [letC, digitC]; done) | (simp_all [letC, digitC]; omega) | (exfalso; simp_all [letC, digitC]; omega))
           case measure => simp [intOf]; omega)
    · have hl : s.data.toList.take k = s.data.toList := List.take_of_length_le (by rw [Array.length_toList]; show s.size ≤ k; omega)
      rw [hl] at H
      go_wp2
      all_goals
        go_ret
        refine ⟨ret_b ?_, rfl⟩
        have hsz : s.data.size = s.size := rfl
        rw [Bool.eq_iff_iff]
        simp only [letters, H.out, Bool.and_true, Array.length_toList, hsz, Bool.and_eq_true, decide_eq_true_eq, Bool.false_eq_true, false_iff]
        omega
theorem word_false (s : ByteArray) (w : World) (hs : s.size ≤ maxLen) : Calls Tryz.prog 45 #[.string s, .bool false] w fun e w' => e = .returned (.bool (letters false s.data.toList)) ∧ w = w' := by
  unfold maxLen at hs
  go_enter Tryz.func45, Tryz.ntmps45
  go_wp2
  go_loop [9] (fun i => ∃ k : Nat, k ≤ s.size ∧ i = .int .i64 k ∧ (s.data.toList.take k).all (letC false) = true) (fun i => s.size - (intOf i).toNat)
  case atStart => exact ⟨0, Nat.zero_le _, rfl, rfl⟩
  case round =>
    obtain ⟨k, hk, rfl, hall⟩ := hrel
    have H := Lib.hid hall
    clear hall
    by_cases hlt : k < s.size
    · go_wp2_with (first
        | (go_at_call 46; refine (small_c _ _).mono ?_; rintro e w' ⟨rfl, rfl⟩)
        | (go_at_call 57; refine (great_c _ _).mono ?_; rintro e w' ⟨rfl, rfl⟩))
      all_goals first
        | (go_ret
           exact ⟨ret_b (letters_bad s _ k hlt (by (go_tidy; first | (simp_all [letC, digitC]; done) | (simp_all [letC, digitC]; omega) | (exfalso; simp_all [letC, digitC]; omega)))).symm, rfl⟩)
        | (refine ⟨⟨k + 1, by omega, by go_num, ?_⟩, by simp [intOf]; omega⟩
           rw [take_all_succ s k hlt, H.out]
           (go_tidy; first | (simp_all [letC, digitC]; done) | (simp_all [letC, digitC]; omega) | (exfalso; simp_all [letC, digitC]; omega)))
        | (go_round
           case rel =>
             refine ⟨k + 1, by omega, by go_num, ?_⟩
             rw [take_all_succ s k hlt, H.out]
             (go_tidy; first | (simp_all [letC, digitC]; done) | (simp_all [letC, digitC]; omega) | (exfalso; simp_all [letC, digitC]; omega))
           case measure => simp [intOf]; omega)
    · have hl : s.data.toList.take k = s.data.toList := List.take_of_length_le (by rw [Array.length_toList]; show s.size ≤ k; omega)
      rw [hl] at H
      go_wp2
      all_goals
        go_ret
        refine ⟨ret_b ?_, rfl⟩
        have hsz : s.data.size = s.size := rfl
        rw [Bool.eq_iff_iff]
        simp only [letters, H.out, Bool.and_true, Array.length_toList, hsz, Bool.and_eq_true, decide_eq_true_eq, Bool.false_eq_true, false_iff]
        omega
theorem word_c (s : ByteArray) (g : Bool) (w : World) (hs : s.size ≤ maxLen) : Calls Tryz.prog 45 #[.string s, .bool g] w fun e w' => e = .returned (.bool (letters g s.data.toList)) ∧ w = w' := by
  cases g
  · exact word_false s w hs
  · exact word_true s w hs

/- the keys, and slices.Contains over them -/
def keyWords : List ByteArray := [⟨#[97, 115]⟩, ⟨#[97, 108, 105, 97, 115]⟩, ⟨#[100, 101, 112]⟩, ⟨#[104, 105, 100, 100, 101, 110]⟩, ⟨#[105, 109, 112, 111, 114, 116]⟩, ⟨#[105, 115]⟩, ⟨#[109, 111, 100, 117, 108, 101]⟩, ⟨#[111, 112, 97, 113, 117, 101]⟩, ⟨#[112, 97, 99, 107, 97, 103, 101]⟩, ⟨#[117, 115, 101]⟩, ⟨#[118, 97, 108]⟩, ⟨#[118, 101, 114, 115, 105, 111, 110]⟩]
theorem keys_c (w : World) : Calls Tryz.prog 88 #[] w fun e w' => e = .returned (.slice (some ⟨w.heap.size, 0, none⟩) 12 12) ∧ w.alloc (.cells (keyWords.map Value.string).toArray 9) = w' := by
  go_enter Tryz.func88, Tryz.ntmps88
  go_wp2
  go_ret
  exact ⟨rfl, rfl⟩

def firstOf : List ByteArray → ByteArray → Nat
  | [], _ => 0
  | x :: l, s => if x = s then 0 else firstOf l s + 1
def memB (s : ByteArray) : List ByteArray → Bool
  | [] => false
  | x :: l => decide (x = s) || memB s l
theorem memB_iff (s : ByteArray) : ∀ l, memB s l = true ↔ s ∈ l
  | [] => by simp [memB]
  | x :: l => by
    simp only [memB, Bool.or_eq_true, decide_eq_true_eq, memB_iff s l, List.mem_cons]
    exact ⟨fun h => h.imp Eq.symm id, fun h => h.imp Eq.symm id⟩
def idxOf (l : List ByteArray) (s : ByteArray) : Int := if memB s l = true then (firstOf l s : Int) else -1
theorem firstOf_hit : ∀ (l : List ByteArray) (s : ByteArray) (k : Nat) (hk : k < l.length), l[k] = s → (∀ j (hj : j < k), l[j] ≠ s) → firstOf l s = k
  | [], _, _, hk, _, _ => by simp at hk
  | x :: l, s, 0, _, h, _ => by simp only [List.getElem_cons_zero] at h; simp [firstOf, h]
  | x :: l, s, k + 1, hk, h, hb => by
    have h0 : x ≠ s := hb 0 (by omega)
    have := firstOf_hit l s k (by simpa using hk) (by simpa using h) (fun j hj => by simpa using hb (j + 1) (by omega))
    simp [firstOf, h0, this]
theorem idxOf_hit (l : List ByteArray) (s : ByteArray) (k : Nat) (hk : k < l.length) (h : l[k] = s) (hb : ∀ j (hj : j < k), l[j] ≠ s) : (k : Int) = idxOf l s := by
  have hm : s ∈ l := by rw [← h]; exact List.getElem_mem hk
  rw [idxOf, if_pos ((memB_iff s l).2 hm), firstOf_hit l s k hk h hb]
theorem idxOf_miss (l : List ByteArray) (s : ByteArray) (hb : ∀ j (hj : j < l.length), l[j] ≠ s) : (-1 : Int) = idxOf l s := by
  have : ¬ s ∈ l := fun hm => by
    obtain ⟨j, hj, e⟩ := List.getElem_of_mem hm
    exact hb j hj e
  rw [idxOf, if_neg (fun h => this ((memB_iff s l).1 h))]
theorem index_c (A : Option Addr) (c B : Nat) (l : List ByteArray) (s : ByteArray) (w : World) (hl : l.length ≤ maxLen) (hr : StrsAt w B A l) :
    Calls Tryz.prog 138 #[.slice A l.length c, .string s] w fun e w' => e = .returned (.int .i64 (idxOf l s)) ∧ w = w' := by
  unfold maxLen at hl
  go_enter Tryz.func138, Tryz.ntmps138
  go_wp2
  go_loop [8] (fun i => ∃ k : Nat, k ≤ l.length ∧ i = .int .i64 k ∧ ∀ j (hj : j < k) (hj' : j < l.length), l[j] ≠ s) (fun i => l.length - (intOf i).toNat)
  case atStart => exact ⟨0, Nat.zero_le _, rfl, fun j hj => absurd hj (by omega)⟩
  case round =>
    obtain ⟨k, hk, rfl, hall⟩ := hrel
    have H := Lib.hid hall
    clear hall
    by_cases hlt : k < l.length
    · rcases hr with hr | ⟨b, o, rfl, _, hc⟩
      · subst hr; simp at hlt
      have hck := hc k hlt
      clear hc
      by_cases he : s = l[k]
      · have hq := ba_yes he
        have HE := Lib.hid he
        clear he
        go_wp2
        go_ret
        exact ⟨ret_i (idxOf_hit l s k hlt HE.out.symm (fun j hj => H.out j hj (by omega))), rfl⟩
      · have hq := ba_no he
        have HE := Lib.hid he
        clear he
        go_wp2
        refine ⟨⟨k + 1, by omega, by go_num, fun j hj hj' => ?_⟩, by simp [intOf]; omega⟩
        by_cases e : j = k
        · subst e; exact fun e => HE.out e.symm
        · exact H.out j (by omega) hj'
    · go_wp2
      go_ret
      exact ⟨ret_i (idxOf_miss l s (fun j hj => H.out j (by omega) hj)), rfl⟩
theorem contains_c (A : Option Addr) (c B : Nat) (l : List ByteArray) (s : ByteArray) (w : World) (hl : l.length ≤ maxLen) (hr : StrsAt w B A l) :
    Calls Tryz.prog 87 #[.slice A l.length c, .string s] w fun e w' => e = .returned (.bool (memB s l)) ∧ w = w' := by
  go_enter Tryz.func87, Tryz.ntmps87
  go_wp2_with (go_at_call 138; refine (index_c _ _ _ _ _ _ hl hr).mono ?_; rintro e w' ⟨rfl, rfl⟩)
  go_ret
  refine ⟨ret_b ?_, rfl⟩
  rw [Bool.eq_iff_iff]
  simp only [idxOf]
  split <;> rename_i h
  · simp [h]
  · simp [h]
def keyB (s : ByteArray) : Bool := memB s keyWords
theorem key_c (s : ByteArray) (w : World) : Calls Tryz.prog 47 #[.string s] w fun e w' => e = .returned (.bool (keyB s)) ∧ w.alloc (.cells (keyWords.map Value.string).toArray 9) = w' := by
  have hr : StrsAt (w.alloc (.cells (keyWords.map Value.string).toArray 9)) (w.heap.size + 1) (some ⟨w.heap.size, 0, none⟩) keyWords :=
    .inr ⟨_, _, rfl, by omega, fun i hi => by
      rw [Nat.zero_add, World.cell?_alloc_new, List.getElem?_toArray, List.getElem?_map, List.getElem?_eq_getElem hi]; rfl⟩
  go_enter Tryz.func47, Tryz.ntmps47
  go_wp2_with (first
    | (go_at_call 88; refine (keys_c _).mono ?_; rintro e w' ⟨rfl, rfl⟩)
    | (go_at_call 87; refine (contains_c _ _ _ keyWords _ _ (by decide) hr).mono ?_; rintro e w' ⟨rfl, rfl⟩))
  go_ret
  exact ⟨rfl, rfl⟩
end Go.Proofs.YtjeldfipipkfiaaGreat
namespace Go.Proofs.YtjeldfipipkfiaaGreat
open Go.RowKit
def headC (p : UInt8 → Bool) (s : ByteArray) : Bool := match s.data.toList with | [] => false | c :: _ => p c
theorem headC_at (p : UInt8 → Bool) (s : ByteArray) (h : 0 < s.size) : headC p s = p s[0] := by
  have e : s.data.toList = s[0] :: s.data.toList.drop 1 := by
    have := List.drop_eq_getElem_cons (l := s.data.toList) (i := 0) (by simpa using h)
    rw [List.drop_zero] at this
    rw [this]; rfl
  unfold headC
  rw [e]
theorem letters_pos (g : Bool) (s : ByteArray) (h : letters g s.data.toList = true) : 0 < s.size := by
  have hz : s.data.toList.length = s.size := Array.length_toList
  simp only [letters, Bool.and_eq_true, decide_eq_true_eq, hz] at h
  omega
def tyB (s : ByteArray) : Bool := (s.toList == [73, 110, 116]) || (s.toList == [84, 101, 120, 116]) || (s.toList == [66, 111, 111, 108]) || (s.toList == [76, 105, 115, 116])
def smallB (s : ByteArray) : Bool := letters false s.data.toList && headC smallC s && !keyB s
def greatB (s : ByteArray) : Bool := letters true s.data.toList && headC greatC s && !tyB s
theorem Small_c (s : ByteArray) (w : World) (hs : s.size ≤ maxLen) : Calls Tryz.prog 23 #[.string s] w fun e w' => e = .returned (.bool (smallB s)) ∧ Below w.heap.size w w' := by
  cases hl : letters false s.data.toList
  · go_enter Tryz.func23, Tryz.ntmps23
    go_wp2_with (go_at_call 45; refine (word_c _ _ _ hs).mono ?_; rintro e w' ⟨rfl, rfl⟩)
    go_ret
    exact ⟨ret_b (by simp [smallB, hl]), Below.refl _ _⟩
  · have hp := letters_pos _ _ hl
    have hh := Lib.hid (headC_at smallC s hp)
    cases hc : smallC s[0]
    · go_enter Tryz.func23, Tryz.ntmps23
      go_wp2_with (first
        | (go_at_call 45; refine (word_c _ _ _ hs).mono ?_; rintro e w' ⟨rfl, rfl⟩)
        | (go_at_call 46; refine (small_c _ _).mono ?_; rintro e w' ⟨rfl, rfl⟩))
      go_ret
      exact ⟨ret_b (by simp [smallB, hh.out, hc]), Below.refl _ _⟩
    · go_enter Tryz.func23, Tryz.ntmps23
      go_wp2_with (first
        | (go_at_call 45; refine (word_c _ _ _ hs).mono ?_; rintro e w' ⟨rfl, rfl⟩)
        | (go_at_call 46; refine (small_c _ _).mono ?_; rintro e w' ⟨rfl, rfl⟩)
        | (go_at_call 47; refine (key_c _ _).mono ?_; rintro e w' ⟨rfl, rfl⟩))
      go_ret
      exact ⟨ret_b (by simp [smallB, hh.out, hc, hl]), (Below.refl _ _).alloc (Nat.le_refl _) _⟩
theorem Great_c (s : ByteArray) (w : World) (hs : s.size ≤ maxLen) : Calls Tryz.prog 30 #[.string s] w fun e w' => e = .returned (.bool (greatB s)) ∧ w = w' := by
  cases hl : letters true s.data.toList
  · go_enter Tryz.func30, Tryz.ntmps30
    go_wp2_with (go_at_call 45; refine (word_c _ _ _ hs).mono ?_; rintro e w' ⟨rfl, rfl⟩)
    go_ret
    exact ⟨ret_b (by simp [greatB, hl]), rfl⟩
  · have hp := letters_pos _ _ hl
    have hh := Lib.hid (headC_at greatC s hp)
    cases hc : greatC s[0]
    · go_enter Tryz.func30, Tryz.ntmps30
      go_wp2_with (first
        | (go_at_call 45; refine (word_c _ _ _ hs).mono ?_; rintro e w' ⟨rfl, rfl⟩)
        | (go_at_call 57; refine (great_c _ _).mono ?_; rintro e w' ⟨rfl, rfl⟩))
      go_ret
      exact ⟨ret_b (by simp [greatB, hh.out, hc]), rfl⟩
    · have HG := Lib.hid (show greatB s = !tyB s by simp [greatB, hl, hh.out, hc])
      clear hh
      go_enter Tryz.func30, Tryz.ntmps30
      go_wp2_with (first
        | (go_at_call 45; refine (word_c _ _ _ hs).mono ?_; rintro e w' ⟨rfl, rfl⟩)
        | (go_at_call 57; refine (great_c _ _).mono ?_; rintro e w' ⟨rfl, rfl⟩))
      all_goals
        go_ret
        refine ⟨ret_b ?_, rfl⟩
        rw [HG.out]
        simp [tyB, *]
theorem keys_cell (w : World) (k : Nat) (hk : k < keyWords.length) : (w.alloc (.cells #[.string ⟨#[97, 115]⟩, .string ⟨#[97, 108, 105, 97, 115]⟩, .string ⟨#[100, 101, 112]⟩, .string ⟨#[104, 105, 100, 100, 101, 110]⟩, .string ⟨#[105, 109, 112, 111, 114, 116]⟩, .string ⟨#[105, 115]⟩, .string ⟨#[109, 111, 100, 117, 108, 101]⟩, .string ⟨#[111, 112, 97, 113, 117, 101]⟩, .string ⟨#[112, 97, 99, 107, 97, 103, 101]⟩, .string ⟨#[117, 115, 101]⟩, .string ⟨#[118, 97, 108]⟩, .string ⟨#[118, 101, 114, 115, 105, 111, 110]⟩] 9)).cell? ⟨w.heap.size, k, none⟩ = some (.string keyWords[k]) := by
  show (w.alloc (.cells (keyWords.map Value.string).toArray 9)).cell? ⟨w.heap.size, k, none⟩ = _
  rw [World.cell?_alloc_new, List.getElem?_toArray, List.getElem?_map, List.getElem?_eq_getElem hk]; rfl
theorem rKey_c (s : ByteArray) (w : World) : Calls Tryz.prog 59 #[.string s] w fun e w' => e = .returned (.bool (keyB s)) ∧ w.alloc (.cells (keyWords.map Value.string).toArray 9) = w' := by
  have hK : keyWords.length = 12 := rfl
  have HK := Lib.hid hK
  clear hK
  go_enter Tryz.func59, Tryz.ntmps59
  go_wp2
  go_loop [4] (fun i => ∃ k : Nat, k ≤ 12 ∧ i = .int .i64 k ∧ ∀ j (hj : j < k) (hj' : j < keyWords.length), keyWords[j] ≠ s) (fun i => 12 - (intOf i).toNat)
  case atStart => exact ⟨0, Nat.zero_le _, rfl, fun j hj => absurd hj (by omega)⟩
  case round =>
    obtain ⟨k, hk, rfl, hall⟩ := hrel
    have H := Lib.hid hall
    clear hall
    by_cases hlt : k < 12
    · have hkl : k < keyWords.length := by rw [HK.out]; exact hlt
      have hck := keys_cell w k hkl
      by_cases he : keyWords[k] = s
      · have hq := ba_yes he
        have HE := Lib.hid he
        clear he
        go_wp2
        go_ret
        refine ⟨ret_b ?_, rfl⟩
        have : s ∈ keyWords := by rw [← HE.out]; exact List.getElem_mem hkl
        exact ((memB_iff s keyWords).2 this).symm
      · have hq := ba_no he
        have HE := Lib.hid he
        clear he
        go_wp2
        refine ⟨⟨k + 1, by omega, by go_num, fun j hj hj' => ?_⟩, by simp [intOf]; omega⟩
        by_cases e : j = k
        · subst e; exact HE.out
        · exact H.out j (by omega) hj'
    · go_wp2
      go_ret
      refine ⟨ret_b ?_, rfl⟩
      have : ¬ s ∈ keyWords := fun hm => by
        obtain ⟨j, hj, e⟩ := List.getElem_of_mem hm
        exact H.out j (by have := HK.out; omega) hj e
      rw [Bool.eq_iff_iff]
      simp only [keyB, memB_iff, this]
      simp
theorem letters_true (s : ByteArray) (w : World) (hs : s.size ≤ maxLen) : Calls Tryz.prog 58 #[.string s, .bool true] w fun e w' => e = .returned (.bool (letters true s.data.toList)) ∧ w = w' := by
  unfold maxLen at hs
  by_cases hz : 1 ≤ s.size ∧ s.size ≤ 20
  · obtain ⟨hz1, hz2⟩ := hz
    go_enter Tryz.func58, Tryz.ntmps58
    go_wp2
    go_loop [5] (fun i => ∃ k : Nat, k ≤ s.size ∧ i = .int .i64 k ∧ (s.data.toList.take k).all (letC true) = true) (fun i => s.size - (intOf i).toNat)
    case atStart => exact ⟨0, Nat.zero_le _, rfl, rfl⟩
    case round =>
      obtain ⟨k, hk, rfl, hall⟩ := hrel
      have H := Lib.hid hall
      clear hall
      by_cases hlt : k < s.size
      · go_wp2
        all_goals first
          | (go_ret
             exact ⟨ret_b (letters_bad s _ k hlt (by (go_tidy; first | (simp_all [letC, digitC, smallC, greatC]; done) | (simp_all [letC, digitC, smallC, greatC]; omega) | (exfalso; simp_all [letC, digitC, smallC, greatC]; omega)))).symm, rfl⟩)
          | (refine ⟨⟨k + 1, by omega, by go_num, ?_⟩, by simp [intOf]; omega⟩
             rw [take_all_succ s k hlt, H.out]
             (go_tidy; first | (simp_all [letC, digitC, smallC, greatC]; done) | (simp_all [letC, digitC, smallC, greatC]; omega) | (exfalso; simp_all [letC, digitC, smallC, greatC]; omega)))
          | (go_round
             case rel =>
               refine ⟨k + 1, by omega, by go_num, ?_⟩
               rw [take_all_succ s k hlt, H.out]
               (go_tidy; first | (simp_all [letC, digitC, smallC, greatC]; done) | (simp_all [letC, digitC, smallC, greatC]; omega) | (exfalso; simp_all [letC, digitC, smallC, greatC]; omega))
             case measure => simp [intOf]; omega)
      · have hl : s.data.toList.take k = s.data.toList := List.take_of_length_le (by rw [Array.length_toList]; show s.size ≤ k; omega)
        rw [hl] at H
        go_wp2
        go_ret
        refine ⟨ret_b ?_, rfl⟩
        have hsz : s.data.size = s.size := rfl
        simp [letters, H.out, hsz, hz1, hz2]
  · have hbad : letters true s.data.toList = false := by
      have hsz : s.data.size = s.size := rfl
      simp only [letters, Array.length_toList, hsz, Bool.and_eq_false_iff, decide_eq_false_iff_not]
      left; omega
    have HB := Lib.hid hbad
    clear hbad
    by_cases h1 : s.size < 1
    all_goals
      have h20 : 20 < s.size ∨ s.size < 1 := by omega
      go_enter Tryz.func58, Tryz.ntmps58
      go_wp2
      go_ret
      exact ⟨ret_b HB.out.symm, rfl⟩
theorem letters_false (s : ByteArray) (w : World) (hs : s.size ≤ maxLen) : Calls Tryz.prog 58 #[.string s, .bool false] w fun e w' => e = .returned (.bool (letters false s.data.toList)) ∧ w = w' := by
  unfold maxLen at hs
  by_cases hz : 1 ≤ s.size ∧ s.size ≤ 20
  · obtain ⟨hz1, hz2⟩ := hz
    go_enter Tryz.func58, Tryz.ntmps58
    go_wp2
    go_loop [5] (fun i => ∃ k : Nat, k ≤ s.size ∧ i = .int .i64 k ∧ (s.data.toList.take k).all (letC false) = true) (fun i => s.size - (intOf i).toNat)
    case atStart => exact ⟨0, Nat.zero_le _, rfl, rfl⟩
    case round =>
      obtain ⟨k, hk, rfl, hall⟩ := hrel
      have H := Lib.hid hall
      clear hall
      by_cases hlt : k < s.size
      · go_wp2
        all_goals first
          | (go_ret
             exact ⟨ret_b (letters_bad s _ k hlt (by (go_tidy; first | (simp_all [letC, digitC, smallC, greatC]; done) | (simp_all [letC, digitC, smallC, greatC]; omega) | (exfalso; simp_all [letC, digitC, smallC, greatC]; omega)))).symm, rfl⟩)
          | (refine ⟨⟨k + 1, by omega, by go_num, ?_⟩, by simp [intOf]; omega⟩
             rw [take_all_succ s k hlt, H.out]
             (go_tidy; first | (simp_all [letC, digitC, smallC, greatC]; done) | (simp_all [letC, digitC, smallC, greatC]; omega) | (exfalso; simp_all [letC, digitC, smallC, greatC]; omega)))
          | (go_round
             case rel =>
               refine ⟨k + 1, by omega, by go_num, ?_⟩
               rw [take_all_succ s k hlt, H.out]
               (go_tidy; first | (simp_all [letC, digitC, smallC, greatC]; done) | (simp_all [letC, digitC, smallC, greatC]; omega) | (exfalso; simp_all [letC, digitC, smallC, greatC]; omega))
             case measure => simp [intOf]; omega)
      · have hl : s.data.toList.take k = s.data.toList := List.take_of_length_le (by rw [Array.length_toList]; show s.size ≤ k; omega)
        rw [hl] at H
        go_wp2
        go_ret
        refine ⟨ret_b ?_, rfl⟩
        have hsz : s.data.size = s.size := rfl
        simp [letters, H.out, hsz, hz1, hz2]
  · have hbad : letters false s.data.toList = false := by
      have hsz : s.data.size = s.size := rfl
      simp only [letters, Array.length_toList, hsz, Bool.and_eq_false_iff, decide_eq_false_iff_not]
      left; omega
    have HB := Lib.hid hbad
    clear hbad
    by_cases h1 : s.size < 1
    all_goals
      have h20 : 20 < s.size ∨ s.size < 1 := by omega
      go_enter Tryz.func58, Tryz.ntmps58
      go_wp2
      go_ret
      exact ⟨ret_b HB.out.symm, rfl⟩
theorem letters_c (s : ByteArray) (g : Bool) (w : World) (hs : s.size ≤ maxLen) : Calls Tryz.prog 58 #[.string s, .bool g] w fun e w' => e = .returned (.bool (letters g s.data.toList)) ∧ w = w' := by
  cases g
  · exact letters_false s w hs
  · exact letters_true s w hs
end Go.Proofs.YtjeldfipipkfiaaGreat
namespace Go.Proofs.YtjeldfipipkfiaaGreat
open Go.RowKit
theorem letters_head (g : Bool) (s : ByteArray) (h : letters g s.data.toList = true) (hp : 0 < s.size) : letC g s[0] = true := by
  simp only [letters, Bool.and_eq_true, List.all_eq_true] at h
  exact h.2 _ (by show s.data[0] ∈ _; simp)
theorem rSmall_c (s : ByteArray) (w : World) (hs : s.size ≤ maxLen) : Calls Tryz.prog 32 #[.string s] w fun e w' => e = .returned (.bool (smallB s)) ∧ Below w.heap.size w w' := by
  cases hl : letters false s.data.toList
  · go_enter Tryz.func32, Tryz.ntmps32
    go_wp2_with (first
      | (go_at_call 58; refine (letters_c _ _ _ hs).mono ?_; rintro e w' ⟨rfl, rfl⟩)
      | (go_at_call 59; refine (rKey_c _ _).mono ?_; rintro e w' ⟨rfl, rfl⟩))
    go_ret
    exact ⟨ret_b (by simp [smallB, hl]), (Below.refl _ _).alloc (Nat.le_refl _) _⟩
  · have hp := letters_pos _ _ hl
    have hh := letters_head _ _ hl hp
    have HG := Lib.hid (show smallB s = (smallC s[0] && !keyB s) by simp [smallB, hl, headC_at smallC s hp])
    cases hk : keyB s
    · by_cases hc : (97 : Int) ≤ (s[0].toNat : Int)
      all_goals
        have HH := Lib.hid hh
        have HK := Lib.hid hk
        clear hh
        go_enter Tryz.func32, Tryz.ntmps32
        go_wp2_with (first
          | (go_at_call 58; refine (letters_c _ _ _ hs).mono ?_; rintro e w' ⟨rfl, rfl⟩)
          | (go_at_call 59; refine (rKey_c _ _).mono ?_; rintro e w' ⟨rfl, rfl⟩))
        go_ret
        refine ⟨ret_b ?_, (Below.refl _ _).alloc (Nat.le_refl _) _⟩
        have h1 := HH.out
        rw [HG.out]
        simp only [letC, smallC, digitC, Bool.or_eq_true, Bool.and_eq_true, decide_eq_true_eq, Bool.false_and, Bool.or_false, HK.out, Bool.not_false, Bool.and_true] at h1 ⊢
        rw [Bool.eq_iff_iff]
        simp only [Bool.and_eq_true, decide_eq_true_eq]
        first | omega | (simp only [true_iff]; omega)
    · go_enter Tryz.func32, Tryz.ntmps32
      go_wp2_with (first
        | (go_at_call 58; refine (letters_c _ _ _ hs).mono ?_; rintro e w' ⟨rfl, rfl⟩)
        | (go_at_call 59; refine (rKey_c _ _).mono ?_; rintro e w' ⟨rfl, rfl⟩))
      go_ret
      exact ⟨ret_b (by rw [HG.out, hk]; simp), (Below.refl _ _).alloc (Nat.le_refl _) _⟩
theorem rGreat_c (s : ByteArray) (w : World) (hs : s.size ≤ maxLen) : Calls Tryz.prog 60 #[.string s] w fun e w' => e = .returned (.bool (greatB s)) ∧ w = w' := by
  cases hl : letters true s.data.toList
  · go_enter Tryz.func60, Tryz.ntmps60
    go_wp2_with (go_at_call 58; refine (letters_c _ _ _ hs).mono ?_; rintro e w' ⟨rfl, rfl⟩)
    go_ret
    exact ⟨ret_b (by simp [greatB, hl]), rfl⟩
  · have hp := letters_pos _ _ hl
    have HG := Lib.hid (show greatB s = (greatC s[0] && !tyB s) by simp [greatB, hl, headC_at greatC s hp])
    by_cases hc : (65 : Int) ≤ (s[0].toNat : Int)
    · by_cases hd : (s[0].toNat : Int) ≤ 90
      · have HC := Lib.hid (show greatC s[0] = true by simp only [greatC, Bool.and_eq_true, decide_eq_true_eq]; exact ⟨hc, hd⟩)
        go_enter Tryz.func60, Tryz.ntmps60
        go_wp2_with (go_at_call 58; refine (letters_c _ _ _ hs).mono ?_; rintro e w' ⟨rfl, rfl⟩)
        all_goals
          go_ret
          refine ⟨ret_b ?_, rfl⟩
          rw [HG.out, HC.out]
          simp [tyB, *]
      · have HC := Lib.hid (show greatC s[0] = false by simp only [greatC, Bool.and_eq_false_iff, decide_eq_false_iff_not]; exact .inr hd)
        go_enter Tryz.func60, Tryz.ntmps60
        go_wp2_with (go_at_call 58; refine (letters_c _ _ _ hs).mono ?_; rintro e w' ⟨rfl, rfl⟩)
        go_ret
        exact ⟨ret_b (by rw [HG.out, HC.out]; rfl), rfl⟩
    · have HC := Lib.hid (show greatC s[0] = false by simp only [greatC, Bool.and_eq_false_iff, decide_eq_false_iff_not]; exact .inl hc)
      go_enter Tryz.func60, Tryz.ntmps60
      go_wp2_with (go_at_call 58; refine (letters_c _ _ _ hs).mono ?_; rintro e w' ⟨rfl, rfl⟩)
      go_ret
      exact ⟨ret_b (by rw [HG.out, HC.out]; rfl), rfl⟩

/- plain laws on names -/
def snoc (s : ByteArray) (c : UInt8) : ByteArray := s ++ ⟨#[c]⟩
def tyK (l : List UInt8) : Bool := l == [73, 110, 116] || l == [84, 101, 120, 116] || l == [66, 111, 111, 108] || l == [76, 105, 115, 116]
end Go.Proofs.YtjeldfipipkfiaaGreat
