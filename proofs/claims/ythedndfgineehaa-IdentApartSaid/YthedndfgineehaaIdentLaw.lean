/- The walks of the laws IdentNames and IdentApart: whatever the text, true; no condition but that a text is no longer than a Go text can be. -/
import Derived.Test.YthedndfgineehaaIdentC
namespace Go.Proofs.Ythedndfgineehaa
open Go.RowKit
theorem acc0 {B : Nat} {w a c : World} (h : Below B w a) (hB : B ≤ a.heap.size) (hb : Below a.heap.size a c) : Below B w c := h.trans (hb.mono hB)
theorem acc1 {B : Nat} {w a c : World} {o : Obj} (h : Below B w a) (hB : B ≤ a.heap.size) (hb : Below (a.alloc o).heap.size (a.alloc o) c) : Below B w c :=
  (h.alloc hB o).trans (hb.mono (Nat.le_trans hB (by simp)))
theorem up2_c (w : World) : Calls Try.prog 5 #[] w fun e w' => e = .returned (.bool true) ∧ Below w.heap.size w w' := by
  have h1 : smallB ⟨#[120, 49]⟩ = true := by decide
  have h2 : greatB ⟨#[80, 111, 105, 110, 116]⟩ = true := by rw [greatB_eq]; decide
  have h3 : keyB ⟨#[118, 97, 108]⟩ = true := by decide
  have h4 : smallB ⟨#[118, 97, 108]⟩ = false := by decide
  have hacc := Below.refl w.heap.size w
  go_enter Try.func5, Try.ntmps5
  go_wp2_with (first
    | (go_at_call 6; refine (Small_c _ _ (by decide)).mono ?_; rintro e w1 ⟨rfl, hb⟩; have hacc := hacc.trans (hb.mono hacc.size))
    | (go_at_call 8; refine (Great_c _ _ (by decide)).mono ?_; rintro e w1 ⟨rfl, rfl⟩)
    | (go_at_call 10; refine (key_b _ _).mono ?_; rintro e w1 ⟨rfl, hb⟩; have hacc := hacc.trans (hb.mono hacc.size)))
  go_ret
  exact ⟨rfl, hacc⟩
theorem names_c (s : ByteArray) (w : World) (hs : s.size ≤ maxLen) : Calls Try.prog 3 #[.string s] w fun e w' => e = .returned (.bool true) ∧ Below w.heap.size w w' := by
  have hacc := Below.refl w.heap.size w
  by_cases hz : 1000 < s.size
  all_goals
    go_enter Try.func3, Try.ntmps3
    go_wp2_with (first
      | (go_at_call 5; refine (up2_c _).mono ?_; rintro e w1 ⟨rfl, hb⟩; have hacc := hacc.trans (hb.mono hacc.size))
      | (go_at_call 6; refine (Small_c _ _ hs).mono ?_; rintro e w1 ⟨rfl, hb⟩; have hacc := hacc.trans (hb.mono hacc.size))
      | (go_at_call 7; refine (rSmall_c _ _ hs).mono ?_; rintro e w1 ⟨rfl, hb⟩; have hacc := hacc.trans (hb.mono hacc.size))
      | (go_at_call 8; refine (Great_c _ _ hs).mono ?_; rintro e w1 ⟨rfl, rfl⟩)
      | (go_at_call 9; refine (rGreat_c _ _ hs).mono ?_; rintro e w1 ⟨rfl, rfl⟩)
      | (go_at_call 10; refine (key_b _ _).mono ?_; rintro e w1 ⟨rfl, hb⟩; have hacc := hacc.trans (hb.mono hacc.size))
      | (go_at_call 11; refine (rKey_b _ _).mono ?_; rintro e w1 ⟨rfl, hb⟩; have hacc := hacc.trans (hb.mono hacc.size)))
    go_ret
    exact ⟨rfl, hacc⟩
theorem conv1 (W : World) (c : UInt8) : (convert 24 9 (.slice (some ⟨W.heap.size, 0, none⟩) 1 1)).run Try.prog (W.alloc (.cells #[.int .u8 (c.toNat : Int)] 5)) = .ok (.string ⟨#[c]⟩) (W.alloc (.cells #[.int .u8 (c.toNat : Int)] 5)) :=
  run_convert_bytes_back (P := Try.prog) _ 24 9 5 ⟨W.heap.size, 0, none⟩ 1 [c] Try.underlying24 Try.underlying5 Try.underlying9 (by
    intro i hi
    obtain rfl : i = 0 := by simpa using hi
    simp [Addr.add])
set_option maxHeartbeats 2000000 in
theorem apart_c (s : ByteArray) (c : UInt8) (w : World) (hs : s.size ≤ maxLen) : Calls Try.prog 4 #[.string s, .int .u8 (c.toNat : Int)] w fun e w' => e = .returned (.bool true) ∧ Below w.heap.size w w' := by
  have hacc := Below.refl w.heap.size w
  have kc := fun W => conv1 W c
  by_cases hz : 1000 < s.size
  · go_enter Try.func4, Try.ntmps4
    go_wp2_with (go_at_call 5; refine (up2_c _).mono ?_; rintro e w1 ⟨rfl, hb⟩; have hacc := hacc.trans (hb.mono hacc.size))
    go_ret
    exact ⟨rfl, hacc⟩
  · have hs0 : (s ++ (⟨#[c]⟩ : ByteArray)).size ≤ maxLen := by
      rw [ByteArray.size_append]; unfold maxLen; show s.size + 1 ≤ _; omega
    have Ka := Lib.hid (small_not_great s)
    have Kb := Lib.hid (key_not_small s)
    have Kd := Lib.hid (key_not_great s)
    have Ke := Lib.hid (small_snoc s c)
    have Kf := Lib.hid (great_snoc s c)
    by_cases hc : (97 : Int) ≤ (c.toNat : Int) ∧ (c.toNat : Int) ≤ 122 ∧ s.size < 20
    · obtain ⟨hc1, hc2, hc3⟩ := hc
      have hsc : Hid (smallC c = true) := by
        show smallC c = true
        simp only [smallC, Bool.and_eq_true, decide_eq_true_eq]; exact ⟨hc1, hc2⟩
      cases hS : smallB s
      · cases hG : greatB s
        · cases hK : keyB s
          all_goals
            go_enter Try.func4, Try.ntmps4
            go_wp2_with (first
                 | (go_at_call 5; refine (up2_c _).mono ?_; rintro e w1 ⟨rfl, hb⟩; have hacc := hacc.trans (hb.mono hacc.size))
                 | (go_at_call 6; refine (Small_c _ _ (by first | assumption)).mono ?_; rintro e w1 ⟨rfl, hb⟩; first | have hacc := acc0 hacc hacc.size hb | have hacc := acc1 hacc hacc.size hb)
                 | (go_at_call 8; refine (Great_c _ _ (by first | assumption)).mono ?_; rintro e w1 ⟨rfl, rfl⟩)
                 | (go_at_call 10; refine (key_b _ _).mono ?_; rintro e w1 ⟨rfl, hb⟩; first | have hacc := acc0 hacc hacc.size hb | have hacc := acc1 hacc hacc.size hb))
            go_ret
            exact ⟨rfl, hacc.alloc hacc.size _⟩
        · cases hK : keyB s
          · have hf := Lib.hid (Kf.out hsc.out hc3 hG)
            go_enter Try.func4, Try.ntmps4
            go_wp2_with (first
                 | (go_at_call 5; refine (up2_c _).mono ?_; rintro e w1 ⟨rfl, hb⟩; have hacc := hacc.trans (hb.mono hacc.size))
                 | (go_at_call 6; refine (Small_c _ _ (by first | assumption)).mono ?_; rintro e w1 ⟨rfl, hb⟩; first | have hacc := acc0 hacc hacc.size hb | have hacc := acc1 hacc hacc.size hb)
                 | (go_at_call 8; refine (Great_c _ _ (by first | assumption)).mono ?_; rintro e w1 ⟨rfl, rfl⟩)
                 | (go_at_call 10; refine (key_b _ _).mono ?_; rintro e w1 ⟨rfl, hb⟩; first | have hacc := acc0 hacc hacc.size hb | have hacc := acc1 hacc hacc.size hb))
            all_goals
              go_ret
              refine ⟨ret_b ?_, hacc.alloc hacc.size _⟩
              first
                | rfl
                | (have h := hf.out
                   simp only [snoc, tyB] at h
                   simp_all)
          · have := Kd.out hK; rw [hG] at this; cases this
      · cases hG : greatB s
        · cases hK : keyB s
          · have hf : smallB (s ++ (⟨#[c]⟩ : ByteArray)) = true ∨ keyB (s ++ (⟨#[c]⟩ : ByteArray)) = true := Ke.out hsc.out hc3 hS
            cases hS' : smallB (s ++ (⟨#[c]⟩ : ByteArray))
            · have hK' : keyB (s ++ (⟨#[c]⟩ : ByteArray)) = true := by simpa [hS'] using hf
              clear hf
              go_enter Try.func4, Try.ntmps4
              go_wp2_with (first
                 | (go_at_call 5; refine (up2_c _).mono ?_; rintro e w1 ⟨rfl, hb⟩; have hacc := hacc.trans (hb.mono hacc.size))
                 | (go_at_call 6; refine (Small_c _ _ (by first | assumption)).mono ?_; rintro e w1 ⟨rfl, hb⟩; first | have hacc := acc0 hacc hacc.size hb | have hacc := acc1 hacc hacc.size hb)
                 | (go_at_call 8; refine (Great_c _ _ (by first | assumption)).mono ?_; rintro e w1 ⟨rfl, rfl⟩)
                 | (go_at_call 10; refine (key_b _ _).mono ?_; rintro e w1 ⟨rfl, hb⟩; first | have hacc := acc0 hacc hacc.size hb | have hacc := acc1 hacc hacc.size hb))
              go_ret
              exact ⟨rfl, hacc⟩
            · clear hf
              go_enter Try.func4, Try.ntmps4
              go_wp2_with (first
                 | (go_at_call 5; refine (up2_c _).mono ?_; rintro e w1 ⟨rfl, hb⟩; have hacc := hacc.trans (hb.mono hacc.size))
                 | (go_at_call 6; refine (Small_c _ _ (by first | assumption)).mono ?_; rintro e w1 ⟨rfl, hb⟩; first | have hacc := acc0 hacc hacc.size hb | have hacc := acc1 hacc hacc.size hb)
                 | (go_at_call 8; refine (Great_c _ _ (by first | assumption)).mono ?_; rintro e w1 ⟨rfl, rfl⟩)
                 | (go_at_call 10; refine (key_b _ _).mono ?_; rintro e w1 ⟨rfl, hb⟩; first | have hacc := acc0 hacc hacc.size hb | have hacc := acc1 hacc hacc.size hb))
              go_ret
              exact ⟨rfl, hacc⟩
          · have := Kb.out hK; rw [hS] at this; cases this
        · exact (Ka.out hS hG).elim
    · cases hS : smallB s
      all_goals
        cases hG : greatB s
        all_goals
          cases hK : keyB s
          all_goals
            first
              | (exact (Ka.out hS hG).elim)
              | (have := Kb.out hK; rw [hS] at this; cases this; done)
              | (have := Kd.out hK; rw [hG] at this; cases this; done)
              | (by_cases h97 : (97 : Int) ≤ (c.toNat : Int)
                 all_goals
                   by_cases h122 : (c.toNat : Int) ≤ 122
                   all_goals
                     first
                       | (exfalso; omega)
                       | (have h20 : 20 ≤ s.size ∨ ((c.toNat : Int) < 97 ∨ 122 < (c.toNat : Int)) := by omega
                          go_enter Try.func4, Try.ntmps4
                          go_wp2_with (first
                 | (go_at_call 5; refine (up2_c _).mono ?_; rintro e w1 ⟨rfl, hb⟩; have hacc := hacc.trans (hb.mono hacc.size))
                 | (go_at_call 6; refine (Small_c _ _ (by first | assumption)).mono ?_; rintro e w1 ⟨rfl, hb⟩; first | have hacc := acc0 hacc hacc.size hb | have hacc := acc1 hacc hacc.size hb)
                 | (go_at_call 8; refine (Great_c _ _ (by first | assumption)).mono ?_; rintro e w1 ⟨rfl, rfl⟩)
                 | (go_at_call 10; refine (key_b _ _).mono ?_; rintro e w1 ⟨rfl, hb⟩; first | have hacc := acc0 hacc hacc.size hb | have hacc := acc1 hacc hacc.size hb))
                          go_ret
                          exact ⟨rfl, hacc⟩))
end Go.Proofs.Ythedndfgineehaa
