/- The contract of merlonref01.Digits: a number's decimal digits; the premise: 0 to 999999999. -/
import Derived.Test.YtlpgkldialmofaaGreatDoorDigL
import Derived.Test.YtlpgkldialmofaaGreatDoorRegM
import Derived.Laws.IdiomStrings
import Derived.Laws.BitsLemmas
import Derived.Deep.DeepCutAuto
namespace Go.Proofs.YtlpgkldialmofaaGreatDoor
open Go.RowKit
set_option linter.unusedSimpArgs false
set_option linter.unusedVariables false
theorem dig_nat {n : Nat} (h : n < 10) : ((UInt8.ofNat (48 + n)).toNat : Int) = 48 + (n : Int) := by
  have : ∀ n : Fin 10, ((UInt8.ofNat (48 + n.1)).toNat : Int) = 48 + (n.1 : Int) := by decide
  exact this ⟨n, h⟩
theorem conv_dig {n : Nat} (h : n < 10) (w : World) (b c : Nat) (hc : w.cell? ⟨b, 0, none⟩ = some (.int .u8 (48 + (n : Int)))) :
    (convert 93 9 (.slice (some ⟨b, 0, none⟩) 1 c)).run Tryz.prog w = .ok (.string (ba (Lib.decDigits n))) w := by
  rw [dec_lt h]
  exact run_convert_bytes_back w 93 9 5 ⟨b, 0, none⟩ c [UInt8.ofNat (48 + n)] Tryz.underlying93 Tryz.underlying5 Tryz.underlying9 fun j hj => by
    have hj0 : j = 0 := by simp at hj; omega
    subst hj0
    rw [addN]
    simp only [List.getElem_cons_zero]
    rw [dig_nat h]
    exact hc
set_option maxRecDepth 100000 in
set_option maxHeartbeats 4000000 in
theorem digits_small (n : Nat) (h : n < 10) (w : World) : Calls Tryz.prog 62 #[.int .i64 n] w fun e w' => e = .returned (.string (ba (Lib.decDigits n))) ∧ Below w.heap.size w w' := by
  have hn : (n : Int) < 10 := by omega
  have h0 : (0 : Int) ≤ (n : Int) := by omega
  have hcv := conv_dig h (w.alloc (.cells #[.int .u8 (48 + (n : Int))] 5)) w.heap.size 1 ((Blk.new w #[.int .u8 (48 + (n : Int))] 5).cell 0)
  go_enter Tryz.func62, Tryz.ntmps62
  go_wp2
  go_ret
  exact ⟨rfl, (Below.refl _ _).alloc (Nat.le_refl _) _⟩
set_option maxRecDepth 100000 in
set_option maxHeartbeats 4000000 in
theorem digits_c : ∀ (n : Nat), n ≤ 999999999 → ∀ w : World, Calls Tryz.prog 62 #[.int .i64 n] w fun e w' => e = .returned (.string (ba (Lib.decDigits n))) ∧ Below w.heap.size w w' := by
  intro n
  induction n using Nat.strongRecOn with
  | _ n ih =>
    intro hm w
    by_cases h : n < 10
    · exact digits_small n h w
    have HI := Lib.hid (ih (n / 10) (by omega) (by omega))
    obtain ⟨q, hq⟩ : ∃ q : Int, ((n / 10 : Nat) : Int) = q := ⟨_, rfl⟩
    obtain ⟨r, hr⟩ : ∃ r : Int, ((n % 10 : Nat) : Int) = r := ⟨_, rfl⟩
    have hq1 : (n : Int).tdiv 10 = q := by rw [← hq]; exact (Int.ofNat_tdiv n 10).symm
    have hr1 : (n : Int).tmod 10 = r := by rw [← hr]; exact (Int.ofNat_tmod n 10).symm
    have hr9 : 0 ≤ r ∧ r < 10 := by omega
    have hr10 := hr9.1
    have hr11 := hr9.2
    have hq2 : -9223372036854775808 ≤ q := by omega
    have hq3 : q ≤ 9223372036854775807 := by omega
    have hn : ¬ (n : Int) < 10 := by omega
    have l1 := dec_len 8 (n / 10) (by omega)
    have l2 := dec_len 0 (n % 10) (by omega)
    have lb1 : (ba (Lib.decDigits (n / 10))).size ≤ 9 := by rw [ba_size]; exact l1
    have lb2 : (ba (Lib.decDigits (n % 10))).size ≤ 1 := by rw [ba_size]; exact l2
    have hz : ¬ 9223372036854775807 < (ba (Lib.decDigits (n / 10))).size + (ba (Lib.decDigits (n % 10))).size := by omega
    have HC := Lib.hid (fun (W : World) (b : Nat) (hc : W.cell? ⟨b, 0, none⟩ = some (.int .u8 (48 + r))) => (show (convert 93 9 (.slice (some ⟨b, 0, none⟩) 1 1)).run Tryz.prog W = .ok (.string (ba (Lib.decDigits (n % 10)))) W from conv_dig (Nat.mod_lt n (by omega)) W b 1 (by rw [hr]; exact hc)))
    have HE := Lib.hid (dec_ge h)
    have HQ := Lib.hid hq
    have hw8 : IntKind.u8.wrap (48 + r) = 48 + r := by rw [IntKind.wrap_u8]; omega
    have hw1 : IntKind.i64.wrap q = q := by rw [IntKind.wrap_i64]; omega
    have hw2 : IntKind.i64.wrap (48 + r) = 48 + r := by rw [IntKind.wrap_i64]; omega
    clear ih l1 l2 lb1 lb2 hr9 hq hr hm h
    go_enter Tryz.func62, Tryz.ntmps62
    go_upto_region 3 with fail
    refine wp_region_until [] (by kernel_rfl) Until.nil (fun hU => ?_)
    refine AnyU.take (i := 0) (v := ?_) rfl (by kernel_rfl) (by kernel_rfl) (by kernel_rfl) (fun _ _ _ h => h) (by kernel_rfl) (by assumption) (by rfl) ?_ (fun hU => ?_)
    rotate_left 1
    · (intro wq; go_simp; try with_reducible rfl)
    simp only [Act.put, List.getElem_toArray, List.getElem_cons_zero, List.getElem_cons_succ, List.setIfInBounds_toArray, List.set_cons_zero, List.set_cons_succ]
    refine AnyU.take (i := 1) (v := ?_) rfl (by kernel_rfl) (by kernel_rfl) (by kernel_rfl) (fun _ _ _ h => h) (by kernel_rfl) (by assumption) (by rfl) ?_ (fun hU => ?_)
    rotate_left 1
    · (intro wq; go_simp; try with_reducible rfl)
    simp only [Act.put, List.getElem_toArray, List.getElem_cons_zero, List.getElem_cons_succ, List.setIfInBounds_toArray, List.set_cons_zero, List.set_cons_succ]
    refine AnyU.take (i := 3) (v := ?_) rfl (by kernel_rfl) (by kernel_rfl) (by kernel_rfl) (fun _ _ _ h => h) (by kernel_rfl) (by assumption) (by rfl) ?_ (fun hU => ?_)
    rotate_left 1
    · (intro wq; go_simp; try with_reducible rfl)
    simp only [Act.put, List.getElem_toArray, List.getElem_cons_zero, List.getElem_cons_succ, List.setIfInBounds_toArray, List.set_cons_zero, List.set_cons_succ]
    refine AnyU.take (i := 4) (v := ?_) rfl (by kernel_rfl) (by kernel_rfl) (by kernel_rfl) (fun _ _ _ h => h) (by kernel_rfl) (by assumption) (by rfl) ?_ (fun hU => ?_)
    rotate_left 1
    · (intro wq; go_simp; try with_reducible rfl)
    simp only [Act.put, List.getElem_toArray, List.getElem_cons_zero, List.getElem_cons_succ, List.setIfInBounds_toArray, List.set_cons_zero, List.set_cons_succ]
    refine AnyU.take (i := 5) (v := ?_) rfl (by kernel_rfl) (by kernel_rfl) (by kernel_rfl) (fun _ _ _ h => h) (by kernel_rfl) (by assumption) (by rfl) ?_ (fun hU => ?_)
    rotate_left 1
    · (intro wq; go_simp; try with_reducible rfl)
    simp only [Act.put, List.getElem_toArray, List.getElem_cons_zero, List.getElem_cons_succ, List.setIfInBounds_toArray, List.set_cons_zero, List.set_cons_succ]
    refine AnyU.take (i := 6) (v := ?_) rfl (by kernel_rfl) (by kernel_rfl) (by kernel_rfl) (fun _ _ _ h => h) (by kernel_rfl) (by assumption) (by rfl) ?_ (fun hU => ?_)
    rotate_left 1
    · (intro wq; go_simp; try with_reducible rfl)
    simp only [Act.put, List.getElem_toArray, List.getElem_cons_zero, List.getElem_cons_succ, List.setIfInBounds_toArray, List.set_cons_zero, List.set_cons_succ]
    refine AnyU.ready2 (i := 2) (j := 7) (by kernel_rfl) (AnyU.one rfl fun K hK => ?_) (AnyU.one rfl fun K hK => ?_)
    · go_simp
      go_at_call 62
      rw [← HQ.out]
      refine (HI.out _).mono ?_
      rintro e wd ⟨rfl, hbd⟩
      have hb0 : Below w.heap.size w wd := (Below.refl _ w).drew.trans hbd
      refine hK.out _ _ Until.nil (fun hU => ?_)
      clear hK K
      try simp only [Act.put, List.getElem_toArray, List.getElem_cons_zero, List.getElem_cons_succ, List.setIfInBounds_toArray, List.set_cons_zero, List.set_cons_succ]
      refine AnyU.ready1 (i := 7) (by kernel_rfl) (AnyU.one rfl fun K hK => ?_)
      go_simp
      refine hK.out _ _ Until.nil (fun hU => ?_)
      clear hK K
      try simp only [Act.put, List.getElem_toArray, List.getElem_cons_zero, List.getElem_cons_succ, List.setIfInBounds_toArray, List.set_cons_zero, List.set_cons_succ]
      have hcv := HC.out (wd.alloc (.cells #[.int .u8 (48 + r)] 5)) wd.heap.size ((Blk.new wd _ _).cell 0)
      refine AnyU.ready1 (i := 8) (by kernel_rfl) (AnyU.one rfl fun K hK => ?_)
      go_simp
      refine hK.out _ _ Until.nil (fun hU => ?_)
      clear hK K
      try simp only [Act.put, List.getElem_toArray, List.getElem_cons_zero, List.getElem_cons_succ, List.setIfInBounds_toArray, List.set_cons_zero, List.set_cons_succ]
      refine AnyU.ready1 (i := 9) (by kernel_rfl) (AnyU.one rfl fun K hK => ?_)
      go_simp
      refine hK.out _ _ Until.nil (fun hU => ?_)
      clear hK K
      try simp only [Act.put, List.getElem_toArray, List.getElem_cons_zero, List.getElem_cons_succ, List.setIfInBounds_toArray, List.set_cons_zero, List.set_cons_succ]
      refine AnyU.ready1 (i := 10) (by kernel_rfl) (AnyU.one rfl fun K hK => ?_)
      go_simp
      refine hK.out _ _ Until.nil (fun hU => ?_)
      clear hK K
      try simp only [Act.put, List.getElem_toArray, List.getElem_cons_zero, List.getElem_cons_succ, List.setIfInBounds_toArray, List.set_cons_zero, List.set_cons_succ]
      refine AnyU.done (by kernel_rfl) ?_
      go_wp2
      go_ret
      exact ⟨congrArg Ending.returned (congrArg Value.string (by rw [HE.out, ← dec_lt (Nat.mod_lt n (by omega)), ba_app])), hb0.alloc hb0.size _⟩
    · go_simp
      refine hK.out _ _ Until.nil (fun hU => ?_)
      clear hK K
      try simp only [Act.put, List.getElem_toArray, List.getElem_cons_zero, List.getElem_cons_succ, List.setIfInBounds_toArray, List.set_cons_zero, List.set_cons_succ]
      have hb1 : Below w.heap.size w (w.alloc (.cells #[.int .u8 (48 + r)] 5)).drew := ((Below.refl _ w).alloc (Nat.le_refl _) _).drew
      refine AnyU.ready2 (i := 2) (j := 8) (by kernel_rfl) (AnyU.one rfl fun K hK => ?_) (AnyU.one rfl fun K hK => ?_)
      · go_simp
        go_at_call 62
        rw [← HQ.out]
        refine (HI.out _).mono ?_
        rintro e wd ⟨rfl, hbd⟩
        have hb0 : Below w.heap.size w wd := hb1.trans (hbd.mono hb1.size)
        have hcv := HC.out wd w.heap.size (((Blk.new w #[.int .u8 (48 + r)] 5).drew.under hbd (Blk.new w #[.int .u8 (48 + r)] 5).drew.lt).cell 0)
        refine hK.out _ _ Until.nil (fun hU => ?_)
        clear hK K
        try simp only [Act.put, List.getElem_toArray, List.getElem_cons_zero, List.getElem_cons_succ, List.setIfInBounds_toArray, List.set_cons_zero, List.set_cons_succ]
        refine AnyU.ready1 (i := 8) (by kernel_rfl) (AnyU.one rfl fun K hK => ?_)
        go_simp
        refine hK.out _ _ Until.nil (fun hU => ?_)
        clear hK K
        try simp only [Act.put, List.getElem_toArray, List.getElem_cons_zero, List.getElem_cons_succ, List.setIfInBounds_toArray, List.set_cons_zero, List.set_cons_succ]
        refine AnyU.ready1 (i := 9) (by kernel_rfl) (AnyU.one rfl fun K hK => ?_)
        go_simp
        refine hK.out _ _ Until.nil (fun hU => ?_)
        clear hK K
        try simp only [Act.put, List.getElem_toArray, List.getElem_cons_zero, List.getElem_cons_succ, List.setIfInBounds_toArray, List.set_cons_zero, List.set_cons_succ]
        refine AnyU.ready1 (i := 10) (by kernel_rfl) (AnyU.one rfl fun K hK => ?_)
        go_simp
        refine hK.out _ _ Until.nil (fun hU => ?_)
        clear hK K
        try simp only [Act.put, List.getElem_toArray, List.getElem_cons_zero, List.getElem_cons_succ, List.setIfInBounds_toArray, List.set_cons_zero, List.set_cons_succ]
        refine AnyU.done (by kernel_rfl) ?_
        go_wp2
        go_ret
        exact ⟨congrArg Ending.returned (congrArg Value.string (by rw [HE.out, ← dec_lt (Nat.mod_lt n (by omega)), ba_app])), hb0⟩
      · have hcv := HC.out (w.alloc (.cells #[.int .u8 (48 + r)] 5)).drew w.heap.size (((Blk.new w _ _).drew).cell 0)
        go_simp
        refine hK.out _ _ Until.nil (fun hU => ?_)
        clear hK K
        try simp only [Act.put, List.getElem_toArray, List.getElem_cons_zero, List.getElem_cons_succ, List.setIfInBounds_toArray, List.set_cons_zero, List.set_cons_succ]
        refine AnyU.ready1 (i := 2) (by kernel_rfl) (AnyU.one rfl fun K hK => ?_)
        go_simp
        go_at_call 62
        rw [← HQ.out]
        refine (HI.out _).mono ?_
        rintro e wd ⟨rfl, hbd⟩
        have hb0 : Below w.heap.size w wd := hb1.trans (hbd.mono hb1.size)
        refine hK.out _ _ Until.nil (fun hU => ?_)
        clear hK K
        try simp only [Act.put, List.getElem_toArray, List.getElem_cons_zero, List.getElem_cons_succ, List.setIfInBounds_toArray, List.set_cons_zero, List.set_cons_succ]
        refine AnyU.ready1 (i := 9) (by kernel_rfl) (AnyU.one rfl fun K hK => ?_)
        go_simp
        refine hK.out _ _ Until.nil (fun hU => ?_)
        clear hK K
        try simp only [Act.put, List.getElem_toArray, List.getElem_cons_zero, List.getElem_cons_succ, List.setIfInBounds_toArray, List.set_cons_zero, List.set_cons_succ]
        refine AnyU.ready1 (i := 10) (by kernel_rfl) (AnyU.one rfl fun K hK => ?_)
        go_simp
        refine hK.out _ _ Until.nil (fun hU => ?_)
        clear hK K
        try simp only [Act.put, List.getElem_toArray, List.getElem_cons_zero, List.getElem_cons_succ, List.setIfInBounds_toArray, List.set_cons_zero, List.set_cons_succ]
        refine AnyU.done (by kernel_rfl) ?_
        go_wp2
        go_ret
        exact ⟨congrArg Ending.returned (congrArg Value.string (by rw [HE.out, ← dec_lt (Nat.mod_lt n (by omega)), ba_app])), hb0⟩
end Go.Proofs.YtlpgkldialmofaaGreatDoor
