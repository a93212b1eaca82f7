/- The contract of bump.Changes at two rows of interfaces that may be held against one another. -/
import Derived.Test.YtjeldfipipkfiaaGreatChgC
import Derived.Laws.AppendOwnNone
import Derived.Deep.CutBlock
namespace Go.Proofs.YtjeldfipipkfiaaGreat
open Go.RowKit
set_option linter.unusedSimpArgs false
set_option linter.unusedVariables false
theorem own_src {w : World} {base K : Nat} {T : TypeId} {v : Value} {n : Nat} {xs : List Value} (h : w.ownsRow base T K v n xs) : (v = .slice none 0 0 ∧ n = 0 ∧ xs = []) ∨ ∃ g cap, v = .slice (some ⟨g, 0, none⟩) n cap ∧ ∀ j u, xs[j]? = some u → w.cell? (Addr.add ⟨g, 0, none⟩ j) = some u := by
  obtain ⟨h0, ⟨rfl, hn⟩ | ⟨g, cap, cur, rfl, hb, hh, hnc, hcm, hsz, htk⟩⟩ := h
  · exact .inl ⟨rfl, hn, by have := h0; simp [hn] at this; exact this⟩
  · refine .inr ⟨g, cap, rfl, fun j u hu => ?_⟩
    have hl := (List.getElem?_eq_some_iff.1 hu).1
    rw [addN, ← hu, ← htk, List.getElem?_take, if_pos (by rw [h0] at hl; exact hl)]
    simp [World.cell?, hh]
set_option maxRecDepth 100000 in
set_option maxHeartbeats 80000000 in
theorem changes_c (A A' : Option Addr) (c c' B : Nat) (a b : List If) (w : World) (h1 : IfsAt w B A a) (h2 : IfsAt w B A' b) (hB : B ≤ w.heap.size) (hl : a.length ≤ 1000) (hl' : b.length ≤ 1000) (hf : fairB a b = true) (hfa : a.all fewX = true) (hfb : b.all fewX = true) :
    Calls Tryz.prog 36 #[.slice A a.length c, .slice A' b.length c'] w fun e w' => ∃ v, e = .returned (.tuple #[v, .nilIface]) ∧ w'.ownsRow w.heap.size 83 4 v (chgF a b).length (flatC (chgF a b)) ∧ Below w.heap.size w w' := by
  obtain ⟨i0, hi, hz0, hz1, hz2⟩ := info_parts info_chg
  have H1 := Lib.hid h1
  have H2 := Lib.hid h2
  simp only [fairB, Bool.and_eq_true] at hf
  obtain ⟨hm1, hm2, hhd⟩ := hf
  have hma := fun w h hB => bumpMay_c a A c B w h hB (by unfold maxLen; omega)
  have hmb := fun w h hB => bumpMay_c b A' c' B w h hB (by unfold maxLen; omega)
  simp only [hm1] at hma
  simp only [hm2] at hmb
  have HHD := Lib.hid hhd
  have HMA := Lib.hid hma
  have HMB := Lib.hid hmb
  have A2 := Lib.hid (Below.refl w.heap.size w)
  obtain ⟨U, hU⟩ : ∃ U, unionN (a.map If.mod) (b.map If.mod) = U := ⟨_, rfl⟩
  have hUl : U.length ≤ 2000 := by
    have := unionN_len (a.map If.mod) (b.map If.mod)
    rw [hU, List.length_map, List.length_map] at this; omega
  have hCN := fun w h1 h2 hB => namesIface_c A A' c c' B a b w h1 h2 hB hl hl'
  simp only [hU] at hCN
  have HCN := Lib.hid hCN
  obtain ⟨RR, hR⟩ : ∃ RR, chgF a b = RR := ⟨_, rfl⟩
  simp only [hR]
  have HRR := Lib.hid (show U.flatMap (modF a b) = RR by rw [← hR, chgF, hU])
  have HFA := Lib.hid hfa
  have HFB := Lib.hid hfb
  have acl : ∀ k, ((U.take k).flatMap (modF a b)).length ≤ 2000 * 800 := by
    intro k
    have h := flatMap_le (f := modF a b) (K := 800) (fun m => by
      have e1 := first_few HFA.out m
      have e2 := first_few HFB.out m
      have e3 := rowsF_len m ((firstIface a m).getD zIf).types ((firstIface b m).getD zIf).types true
      have e4 := rowsF_len m ((firstIface a m).getD zIf).vals ((firstIface b m).getD zIf).vals false
      rw [modF, List.length_append]; omega) (U.take k)
    have : (U.take k).length ≤ U.length := by rw [List.length_take]; omega
    have : (U.take k).length * 800 ≤ 2000 * 800 := Nat.mul_le_mul_right _ (by omega)
    omega
  have ACL := Lib.hid acl
  clear h1 h2 hma hmb hm1 hm2 hhd hCN hU hR hfa hfb acl
  go_enter Tryz.func36, Tryz.ntmps36
  go_upto_region 1 with fail
  go_cut [52] (fun v wx => v = .bool false ∧ Below w.heap.size w wx)
  case first =>
    by_cases hne1 : 0 < a.length
    rotate_left
    · have ha0 : a.length = 0 := by omega
      have hI1 : ¬ (0 : Int) < (a.length : Int) := by omega
      have hN1 : ¬ 0 < a.length := hne1
      clear ha0
      refine wp_region_until [] (by kernel_rfl) Until.nil (fun hU => ?_)
      have A2d := Lib.hid A2.out.drew
      clear A2
      have A2 := A2d
      clear A2d
      refine AnyU.take (i := 0) (v := ?_) rfl (by kernel_rfl) (by kernel_rfl) (by kernel_rfl) (fun _ _ _ h => h) (by kernel_rfl) (by assumption) (by rfl) ?_ (fun hV => ?_)
      rotate_left 1
      · (intro wq; go_simp; try with_reducible rfl)
      clear hU; have hU := hV; clear hV
      try simp only [Act.put, aput]
      refine AnyU.ready1 (i := 1) (by kernel_rfl) (AnyU.one rfl fun K hK => ?_)
      go_simp
      go_at_call 64
      refine (HMA.out _ (H1.out.under (A2.out.mono hB)) (Nat.le_trans hB A2.out.size)).mono ?_
      rintro e w3 ⟨rfl, hb⟩
      have A3 := Lib.hid (A2.out.trans (hb.mono A2.out.size))
      clear hb
      refine hK.out _ _ Until.nil (fun hV => ?_)
      clear hK K
      clear hU; have hU := hV; clear hV
      try simp only [Act.put, aput]
      refine AnyU.take (i := 2) (v := ?_) rfl (by kernel_rfl) (by kernel_rfl) (by kernel_rfl) (fun _ _ _ h => h) (by kernel_rfl) (by assumption) (by rfl) ?_ (fun hV => ?_)
      rotate_left 1
      · (intro wq; go_simp; try with_reducible rfl)
      clear hU; have hU := hV; clear hV
      try simp only [Act.put, aput]
      refine AnyU.take (i := 3) (v := ?_) rfl (by kernel_rfl) (by kernel_rfl) (by kernel_rfl) (fun _ _ _ h => h) (by kernel_rfl) (by assumption) (by rfl) ?_ (fun hV => ?_)
      rotate_left 1
      · (intro wq; go_simp; try with_reducible rfl)
      clear hU; have hU := hV; clear hV
      try simp only [Act.put, aput]
      refine AnyU.take (i := 4) (v := ?_) rfl (by kernel_rfl) (by kernel_rfl) (by kernel_rfl) (fun _ _ _ h => h) (by kernel_rfl) (by assumption) (by rfl) ?_ (fun hV => ?_)
      rotate_left 1
      · (intro wq; go_simp; try with_reducible rfl)
      clear hU; have hU := hV; clear hV
      try simp only [Act.put, aput]
      refine AnyU.ready1 (i := 5) (by kernel_rfl) (AnyU.one rfl fun K hK => ?_)
      go_simp
      go_at_call 64
      refine (HMB.out _ (H2.out.under (A3.out.mono hB)) (Nat.le_trans hB A3.out.size)).mono ?_
      rintro e w4 ⟨rfl, hb⟩
      have A4 := Lib.hid (A3.out.trans (hb.mono A3.out.size))
      clear hb
      refine hK.out _ _ Until.nil (fun hV => ?_)
      clear hK K
      clear hU; have hU := hV; clear hV
      try simp only [Act.put, aput]
      refine AnyU.take (i := 6) (v := ?_) rfl (by kernel_rfl) (by kernel_rfl) (by kernel_rfl) (fun _ _ _ h => h) (by kernel_rfl) (by assumption) (by rfl) ?_ (fun hV => ?_)
      rotate_left 1
      · (intro wq; go_simp; try with_reducible rfl)
      clear hU; have hU := hV; clear hV
      try simp only [Act.put, aput]
      refine AnyU.take (i := 7) (v := ?_) rfl (by kernel_rfl) (by kernel_rfl) (by kernel_rfl) (fun _ _ _ h => h) (by kernel_rfl) (by assumption) (by rfl) ?_ (fun hV => ?_)
      rotate_left 1
      · (intro wq; go_simp; try with_reducible rfl)
      clear hU; have hU := hV; clear hV
      try simp only [Act.put, aput]
      refine AnyU.take (i := 8) (v := ?_) rfl (by kernel_rfl) (by kernel_rfl) (by kernel_rfl) (fun _ _ _ h => h) (by kernel_rfl) (by assumption) (by rfl) ?_ (fun hV => ?_)
      rotate_left 1
      · (intro wq; go_simp; try with_reducible rfl)
      clear hU; have hU := hV; clear hV
      try simp only [Act.put, aput]
      refine AnyU.take (i := 9) (v := ?_) rfl (by kernel_rfl) (by kernel_rfl) (by kernel_rfl) (fun _ _ _ h => h) (by kernel_rfl) (by assumption) (by rfl) ?_ (fun hV => ?_)
      rotate_left 1
      · (intro wq; go_simp; try with_reducible rfl)
      clear hU; have hU := hV; clear hV
      try simp only [Act.put, aput]
      refine AnyU.take (i := 10) (v := ?_) rfl (by kernel_rfl) (by kernel_rfl) (by kernel_rfl) (fun _ _ _ h => h) (by kernel_rfl) (by assumption) (by rfl) ?_ (fun hV => ?_)
      rotate_left 1
      · (intro wq; go_simp; try with_reducible rfl)
      clear hU; have hU := hV; clear hV
      try simp only [Act.put, aput]
      refine AnyU.take (i := 11) (v := ?_) rfl (by kernel_rfl) (by kernel_rfl) (by kernel_rfl) (fun _ _ _ h => h) (by kernel_rfl) (by assumption) (by rfl) ?_ (fun hV => ?_)
      rotate_left 1
      · (intro wq; go_simp; try with_reducible rfl)
      clear hU; have hU := hV; clear hV
      try simp only [Act.put, aput]
      refine AnyU.take (i := 12) (v := ?_) rfl (by kernel_rfl) (by kernel_rfl) (by kernel_rfl) (fun _ _ _ h => h) (by kernel_rfl) (by assumption) (by rfl) ?_ (fun hV => ?_)
      rotate_left 1
      · (intro wq; go_simp; try with_reducible rfl)
      clear hU; have hU := hV; clear hV
      try simp only [Act.put, aput]
      refine AnyU.skip (i := 13) rfl (by kernel_rfl) (by kernel_rfl) (by kernel_rfl) (fun _ _ _ h => h) (by kernel_rfl) (by assumption) (by rfl) (fun hV => ?_)
      clear hU; have hU := hV; clear hV
      try simp only [Act.put, aput]
      refine AnyU.skip (i := 14) rfl (by kernel_rfl) (by kernel_rfl) (by kernel_rfl) (fun _ _ _ h => h) (by kernel_rfl) (by assumption) (by rfl) (fun hV => ?_)
      clear hU; have hU := hV; clear hV
      try simp only [Act.put, aput]
      refine AnyU.skip (i := 15) rfl (by kernel_rfl) (by kernel_rfl) (by kernel_rfl) (fun _ _ _ h => h) (by kernel_rfl) (by assumption) (by rfl) (fun hV => ?_)
      clear hU; have hU := hV; clear hV
      try simp only [Act.put, aput]
      refine AnyU.take (i := 16) (v := ?_) rfl (by kernel_rfl) (by kernel_rfl) (by kernel_rfl) (fun _ _ _ h => h) (by kernel_rfl) (by assumption) (by rfl) ?_ (fun hV => ?_)
      rotate_left 1
      · (intro wq; go_simp; try with_reducible rfl)
      clear hU; have hU := hV; clear hV
      try simp only [Act.put, aput]
      refine AnyU.take (i := 17) (v := ?_) rfl (by kernel_rfl) (by kernel_rfl) (by kernel_rfl) (fun _ _ _ h => h) (by kernel_rfl) (by assumption) (by rfl) ?_ (fun hV => ?_)
      rotate_left 1
      · (intro wq; go_simp; try with_reducible rfl)
      clear hU; have hU := hV; clear hV
      try simp only [Act.put, aput]
      refine AnyU.skip (i := 18) rfl (by kernel_rfl) (by kernel_rfl) (by kernel_rfl) (fun _ _ _ h => h) (by kernel_rfl) (by assumption) (by rfl) (fun hV => ?_)
      clear hU; have hU := hV; clear hV
      try simp only [Act.put, aput]
      refine AnyU.skip (i := 19) rfl (by kernel_rfl) (by kernel_rfl) (by kernel_rfl) (fun _ _ _ h => h) (by kernel_rfl) (by assumption) (by rfl) (fun hV => ?_)
      clear hU; have hU := hV; clear hV
      try simp only [Act.put, aput]
      refine AnyU.skip (i := 20) rfl (by kernel_rfl) (by kernel_rfl) (by kernel_rfl) (fun _ _ _ h => h) (by kernel_rfl) (by assumption) (by rfl) (fun hV => ?_)
      clear hU; have hU := hV; clear hV
      try simp only [Act.put, aput]
      refine AnyU.skip (i := 21) rfl (by kernel_rfl) (by kernel_rfl) (by kernel_rfl) (fun _ _ _ h => h) (by kernel_rfl) (by assumption) (by rfl) (fun hV => ?_)
      clear hU; have hU := hV; clear hV
      try simp only [Act.put, aput]
      refine AnyU.skip (i := 22) rfl (by kernel_rfl) (by kernel_rfl) (by kernel_rfl) (fun _ _ _ h => h) (by kernel_rfl) (by assumption) (by rfl) (fun hV => ?_)
      clear hU; have hU := hV; clear hV
      try simp only [Act.put, aput]
      refine AnyU.skip (i := 23) rfl (by kernel_rfl) (by kernel_rfl) (by kernel_rfl) (fun _ _ _ h => h) (by kernel_rfl) (by assumption) (by rfl) (fun hV => ?_)
      clear hU; have hU := hV; clear hV
      try simp only [Act.put, aput]
      refine AnyU.skip (i := 24) rfl (by kernel_rfl) (by kernel_rfl) (by kernel_rfl) (fun _ _ _ h => h) (by kernel_rfl) (by assumption) (by rfl) (fun hV => ?_)
      clear hU; have hU := hV; clear hV
      try simp only [Act.put, aput]
      refine AnyU.skip (i := 25) rfl (by kernel_rfl) (by kernel_rfl) (by kernel_rfl) (fun _ _ _ h => h) (by kernel_rfl) (by assumption) (by rfl) (fun hV => ?_)
      clear hU; have hU := hV; clear hV
      try simp only [Act.put, aput]
      refine AnyU.skip (i := 26) rfl (by kernel_rfl) (by kernel_rfl) (by kernel_rfl) (fun _ _ _ h => h) (by kernel_rfl) (by assumption) (by rfl) (fun hV => ?_)
      clear hU; have hU := hV; clear hV
      try simp only [Act.put, aput]
      refine AnyU.skip (i := 27) rfl (by kernel_rfl) (by kernel_rfl) (by kernel_rfl) (fun _ _ _ h => h) (by kernel_rfl) (by assumption) (by rfl) (fun hV => ?_)
      clear hU; have hU := hV; clear hV
      try simp only [Act.put, aput]
      refine AnyU.skip (i := 28) rfl (by kernel_rfl) (by kernel_rfl) (by kernel_rfl) (fun _ _ _ h => h) (by kernel_rfl) (by assumption) (by rfl) (fun hV => ?_)
      clear hU; have hU := hV; clear hV
      try simp only [Act.put, aput]
      refine AnyU.skip (i := 29) rfl (by kernel_rfl) (by kernel_rfl) (by kernel_rfl) (fun _ _ _ h => h) (by kernel_rfl) (by assumption) (by rfl) (fun hV => ?_)
      clear hU; have hU := hV; clear hV
      try simp only [Act.put, aput]
      refine AnyU.skip (i := 30) rfl (by kernel_rfl) (by kernel_rfl) (by kernel_rfl) (fun _ _ _ h => h) (by kernel_rfl) (by assumption) (by rfl) (fun hV => ?_)
      clear hU; have hU := hV; clear hV
      try simp only [Act.put, aput]
      refine AnyU.skip (i := 31) rfl (by kernel_rfl) (by kernel_rfl) (by kernel_rfl) (fun _ _ _ h => h) (by kernel_rfl) (by assumption) (by rfl) (fun hV => ?_)
      clear hU; have hU := hV; clear hV
      try simp only [Act.put, aput]
      refine AnyU.skip (i := 32) rfl (by kernel_rfl) (by kernel_rfl) (by kernel_rfl) (fun _ _ _ h => h) (by kernel_rfl) (by assumption) (by rfl) (fun hV => ?_)
      clear hU; have hU := hV; clear hV
      try simp only [Act.put, aput]
      refine AnyU.skip (i := 33) rfl (by kernel_rfl) (by kernel_rfl) (by kernel_rfl) (fun _ _ _ h => h) (by kernel_rfl) (by assumption) (by rfl) (fun hV => ?_)
      clear hU; have hU := hV; clear hV
      try simp only [Act.put, aput]
      refine AnyU.skip (i := 34) rfl (by kernel_rfl) (by kernel_rfl) (by kernel_rfl) (fun _ _ _ h => h) (by kernel_rfl) (by assumption) (by rfl) (fun hV => ?_)
      clear hU; have hU := hV; clear hV
      try simp only [Act.put, aput]
      refine AnyU.skip (i := 35) rfl (by kernel_rfl) (by kernel_rfl) (by kernel_rfl) (fun _ _ _ h => h) (by kernel_rfl) (by assumption) (by rfl) (fun hV => ?_)
      clear hU; have hU := hV; clear hV
      try simp only [Act.put, aput]
      refine AnyU.skip (i := 36) rfl (by kernel_rfl) (by kernel_rfl) (by kernel_rfl) (fun _ _ _ h => h) (by kernel_rfl) (by assumption) (by rfl) (fun hV => ?_)
      clear hU; have hU := hV; clear hV
      try simp only [Act.put, aput]
      refine AnyU.skip (i := 37) rfl (by kernel_rfl) (by kernel_rfl) (by kernel_rfl) (fun _ _ _ h => h) (by kernel_rfl) (by assumption) (by rfl) (fun hV => ?_)
      clear hU; have hU := hV; clear hV
      try simp only [Act.put, aput]
      refine AnyU.take (i := 38) (v := ?_) rfl (by kernel_rfl) (by kernel_rfl) (by kernel_rfl) (fun _ _ _ h => h) (by kernel_rfl) (by assumption) (by rfl) ?_ (fun hV => ?_)
      rotate_left 1
      · (intro wq; go_simp; try with_reducible rfl)
      clear hU; have hU := hV; clear hV
      try simp only [Act.put, aput]
      refine AnyU.ready1 (i := 39) (by kernel_rfl) (AnyU.one rfl fun K hK => ?_)
      go_simp
      refine hK.out _ _ (Until.off (by kernel_rfl)) (fun hV => ?_)
      clear hK K
      clear hU; have hU := hV; clear hV
      try simp only [Act.put, aput]
      refine AnyU.done (by kernel_rfl) ?_
      go_wp2_with fail
      go_meet
      exact ⟨rfl, A4.out⟩
    have hI1 : (0 : Int) < (a.length : Int) := by omega
    by_cases hne2 : 0 < b.length
    rotate_left
    · have hI2 : ¬ (0 : Int) < (b.length : Int) := by omega
      have hN2 : ¬ 0 < b.length := hne2
      refine wp_region_until [] (by kernel_rfl) Until.nil (fun hU => ?_)
      have A2d := Lib.hid A2.out.drew
      clear A2
      have A2 := A2d
      clear A2d
      refine AnyU.take (i := 0) (v := ?_) rfl (by kernel_rfl) (by kernel_rfl) (by kernel_rfl) (fun _ _ _ h => h) (by kernel_rfl) (by assumption) (by rfl) ?_ (fun hV => ?_)
      rotate_left 1
      · (intro wq; go_simp; try with_reducible rfl)
      clear hU; have hU := hV; clear hV
      try simp only [Act.put, aput]
      refine AnyU.ready1 (i := 1) (by kernel_rfl) (AnyU.one rfl fun K hK => ?_)
      go_simp
      go_at_call 64
      refine (HMA.out _ (H1.out.under (A2.out.mono hB)) (Nat.le_trans hB A2.out.size)).mono ?_
      rintro e w3 ⟨rfl, hb⟩
      have A3 := Lib.hid (A2.out.trans (hb.mono A2.out.size))
      clear hb
      refine hK.out _ _ Until.nil (fun hV => ?_)
      clear hK K
      clear hU; have hU := hV; clear hV
      try simp only [Act.put, aput]
      refine AnyU.take (i := 2) (v := ?_) rfl (by kernel_rfl) (by kernel_rfl) (by kernel_rfl) (fun _ _ _ h => h) (by kernel_rfl) (by assumption) (by rfl) ?_ (fun hV => ?_)
      rotate_left 1
      · (intro wq; go_simp; try with_reducible rfl)
      clear hU; have hU := hV; clear hV
      try simp only [Act.put, aput]
      refine AnyU.take (i := 3) (v := ?_) rfl (by kernel_rfl) (by kernel_rfl) (by kernel_rfl) (fun _ _ _ h => h) (by kernel_rfl) (by assumption) (by rfl) ?_ (fun hV => ?_)
      rotate_left 1
      · (intro wq; go_simp; try with_reducible rfl)
      clear hU; have hU := hV; clear hV
      try simp only [Act.put, aput]
      refine AnyU.take (i := 4) (v := ?_) rfl (by kernel_rfl) (by kernel_rfl) (by kernel_rfl) (fun _ _ _ h => h) (by kernel_rfl) (by assumption) (by rfl) ?_ (fun hV => ?_)
      rotate_left 1
      · (intro wq; go_simp; try with_reducible rfl)
      clear hU; have hU := hV; clear hV
      try simp only [Act.put, aput]
      refine AnyU.ready1 (i := 5) (by kernel_rfl) (AnyU.one rfl fun K hK => ?_)
      go_simp
      go_at_call 64
      refine (HMB.out _ (H2.out.under (A3.out.mono hB)) (Nat.le_trans hB A3.out.size)).mono ?_
      rintro e w4 ⟨rfl, hb⟩
      have A4 := Lib.hid (A3.out.trans (hb.mono A3.out.size))
      clear hb
      refine hK.out _ _ Until.nil (fun hV => ?_)
      clear hK K
      clear hU; have hU := hV; clear hV
      try simp only [Act.put, aput]
      refine AnyU.take (i := 6) (v := ?_) rfl (by kernel_rfl) (by kernel_rfl) (by kernel_rfl) (fun _ _ _ h => h) (by kernel_rfl) (by assumption) (by rfl) ?_ (fun hV => ?_)
      rotate_left 1
      · (intro wq; go_simp; try with_reducible rfl)
      clear hU; have hU := hV; clear hV
      try simp only [Act.put, aput]
      refine AnyU.take (i := 7) (v := ?_) rfl (by kernel_rfl) (by kernel_rfl) (by kernel_rfl) (fun _ _ _ h => h) (by kernel_rfl) (by assumption) (by rfl) ?_ (fun hV => ?_)
      rotate_left 1
      · (intro wq; go_simp; try with_reducible rfl)
      clear hU; have hU := hV; clear hV
      try simp only [Act.put, aput]
      refine AnyU.take (i := 8) (v := ?_) rfl (by kernel_rfl) (by kernel_rfl) (by kernel_rfl) (fun _ _ _ h => h) (by kernel_rfl) (by assumption) (by rfl) ?_ (fun hV => ?_)
      rotate_left 1
      · (intro wq; go_simp; try with_reducible rfl)
      clear hU; have hU := hV; clear hV
      try simp only [Act.put, aput]
      refine AnyU.take (i := 9) (v := ?_) rfl (by kernel_rfl) (by kernel_rfl) (by kernel_rfl) (fun _ _ _ h => h) (by kernel_rfl) (by assumption) (by rfl) ?_ (fun hV => ?_)
      rotate_left 1
      · (intro wq; go_simp; try with_reducible rfl)
      clear hU; have hU := hV; clear hV
      try simp only [Act.put, aput]
      refine AnyU.take (i := 10) (v := ?_) rfl (by kernel_rfl) (by kernel_rfl) (by kernel_rfl) (fun _ _ _ h => h) (by kernel_rfl) (by assumption) (by rfl) ?_ (fun hV => ?_)
      rotate_left 1
      · (intro wq; go_simp; try with_reducible rfl)
      clear hU; have hU := hV; clear hV
      try simp only [Act.put, aput]
      refine AnyU.take (i := 11) (v := ?_) rfl (by kernel_rfl) (by kernel_rfl) (by kernel_rfl) (fun _ _ _ h => h) (by kernel_rfl) (by assumption) (by rfl) ?_ (fun hV => ?_)
      rotate_left 1
      · (intro wq; go_simp; try with_reducible rfl)
      clear hU; have hU := hV; clear hV
      try simp only [Act.put, aput]
      refine AnyU.take (i := 12) (v := ?_) rfl (by kernel_rfl) (by kernel_rfl) (by kernel_rfl) (fun _ _ _ h => h) (by kernel_rfl) (by assumption) (by rfl) ?_ (fun hV => ?_)
      rotate_left 1
      · (intro wq; go_simp; try with_reducible rfl)
      clear hU; have hU := hV; clear hV
      try simp only [Act.put, aput]
      refine AnyU.take (i := 13) (v := ?_) rfl (by kernel_rfl) (by kernel_rfl) (by kernel_rfl) (fun _ _ _ h => h) (by kernel_rfl) (by assumption) (by rfl) ?_ (fun hV => ?_)
      rotate_left 1
      · (intro wq; go_simp; try with_reducible rfl)
      clear hU; have hU := hV; clear hV
      try simp only [Act.put, aput]
      refine AnyU.take (i := 14) (v := ?_) rfl (by kernel_rfl) (by kernel_rfl) (by kernel_rfl) (fun _ _ _ h => h) (by kernel_rfl) (by assumption) (by rfl) ?_ (fun hV => ?_)
      rotate_left 1
      · (intro wq; go_simp; try with_reducible rfl)
      clear hU; have hU := hV; clear hV
      try simp only [Act.put, aput]
      refine AnyU.take (i := 15) (v := ?_) rfl (by kernel_rfl) (by kernel_rfl) (by kernel_rfl) (fun _ _ _ h => h) (by kernel_rfl) (by assumption) (by rfl) ?_ (fun hV => ?_)
      rotate_left 1
      · (intro wq; go_simp; try with_reducible rfl)
      clear hU; have hU := hV; clear hV
      try simp only [Act.put, aput]
      refine AnyU.take (i := 16) (v := ?_) rfl (by kernel_rfl) (by kernel_rfl) (by kernel_rfl) (fun _ _ _ h => h) (by kernel_rfl) (by assumption) (by rfl) ?_ (fun hV => ?_)
      rotate_left 1
      · (intro wq; go_simp; try with_reducible rfl)
      clear hU; have hU := hV; clear hV
      try simp only [Act.put, aput]
      refine AnyU.take (i := 17) (v := ?_) rfl (by kernel_rfl) (by kernel_rfl) (by kernel_rfl) (fun _ _ _ h => h) (by kernel_rfl) (by assumption) (by rfl) ?_ (fun hV => ?_)
      rotate_left 1
      · (intro wq; go_simp; try with_reducible rfl)
      clear hU; have hU := hV; clear hV
      try simp only [Act.put, aput]
      refine AnyU.skip (i := 18) rfl (by kernel_rfl) (by kernel_rfl) (by kernel_rfl) (fun _ _ _ h => h) (by kernel_rfl) (by assumption) (by rfl) (fun hV => ?_)
      clear hU; have hU := hV; clear hV
      try simp only [Act.put, aput]
      refine AnyU.skip (i := 19) rfl (by kernel_rfl) (by kernel_rfl) (by kernel_rfl) (fun _ _ _ h => h) (by kernel_rfl) (by assumption) (by rfl) (fun hV => ?_)
      clear hU; have hU := hV; clear hV
      try simp only [Act.put, aput]
      refine AnyU.skip (i := 20) rfl (by kernel_rfl) (by kernel_rfl) (by kernel_rfl) (fun _ _ _ h => h) (by kernel_rfl) (by assumption) (by rfl) (fun hV => ?_)
      clear hU; have hU := hV; clear hV
      try simp only [Act.put, aput]
      refine AnyU.skip (i := 21) rfl (by kernel_rfl) (by kernel_rfl) (by kernel_rfl) (fun _ _ _ h => h) (by kernel_rfl) (by assumption) (by rfl) (fun hV => ?_)
      clear hU; have hU := hV; clear hV
      try simp only [Act.put, aput]
      refine AnyU.skip (i := 22) rfl (by kernel_rfl) (by kernel_rfl) (by kernel_rfl) (fun _ _ _ h => h) (by kernel_rfl) (by assumption) (by rfl) (fun hV => ?_)
      clear hU; have hU := hV; clear hV
      try simp only [Act.put, aput]
      refine AnyU.skip (i := 23) rfl (by kernel_rfl) (by kernel_rfl) (by kernel_rfl) (fun _ _ _ h => h) (by kernel_rfl) (by assumption) (by rfl) (fun hV => ?_)
      clear hU; have hU := hV; clear hV
      try simp only [Act.put, aput]
      refine AnyU.skip (i := 24) rfl (by kernel_rfl) (by kernel_rfl) (by kernel_rfl) (fun _ _ _ h => h) (by kernel_rfl) (by assumption) (by rfl) (fun hV => ?_)
      clear hU; have hU := hV; clear hV
      try simp only [Act.put, aput]
      refine AnyU.skip (i := 25) rfl (by kernel_rfl) (by kernel_rfl) (by kernel_rfl) (fun _ _ _ h => h) (by kernel_rfl) (by assumption) (by rfl) (fun hV => ?_)
      clear hU; have hU := hV; clear hV
      try simp only [Act.put, aput]
      refine AnyU.skip (i := 26) rfl (by kernel_rfl) (by kernel_rfl) (by kernel_rfl) (fun _ _ _ h => h) (by kernel_rfl) (by assumption) (by rfl) (fun hV => ?_)
      clear hU; have hU := hV; clear hV
      try simp only [Act.put, aput]
      refine AnyU.skip (i := 27) rfl (by kernel_rfl) (by kernel_rfl) (by kernel_rfl) (fun _ _ _ h => h) (by kernel_rfl) (by assumption) (by rfl) (fun hV => ?_)
      clear hU; have hU := hV; clear hV
      try simp only [Act.put, aput]
      refine AnyU.skip (i := 28) rfl (by kernel_rfl) (by kernel_rfl) (by kernel_rfl) (fun _ _ _ h => h) (by kernel_rfl) (by assumption) (by rfl) (fun hV => ?_)
      clear hU; have hU := hV; clear hV
      try simp only [Act.put, aput]
      refine AnyU.skip (i := 29) rfl (by kernel_rfl) (by kernel_rfl) (by kernel_rfl) (fun _ _ _ h => h) (by kernel_rfl) (by assumption) (by rfl) (fun hV => ?_)
      clear hU; have hU := hV; clear hV
      try simp only [Act.put, aput]
      refine AnyU.skip (i := 30) rfl (by kernel_rfl) (by kernel_rfl) (by kernel_rfl) (fun _ _ _ h => h) (by kernel_rfl) (by assumption) (by rfl) (fun hV => ?_)
      clear hU; have hU := hV; clear hV
      try simp only [Act.put, aput]
      refine AnyU.skip (i := 31) rfl (by kernel_rfl) (by kernel_rfl) (by kernel_rfl) (fun _ _ _ h => h) (by kernel_rfl) (by assumption) (by rfl) (fun hV => ?_)
      clear hU; have hU := hV; clear hV
      try simp only [Act.put, aput]
      refine AnyU.skip (i := 32) rfl (by kernel_rfl) (by kernel_rfl) (by kernel_rfl) (fun _ _ _ h => h) (by kernel_rfl) (by assumption) (by rfl) (fun hV => ?_)
      clear hU; have hU := hV; clear hV
      try simp only [Act.put, aput]
      refine AnyU.skip (i := 33) rfl (by kernel_rfl) (by kernel_rfl) (by kernel_rfl) (fun _ _ _ h => h) (by kernel_rfl) (by assumption) (by rfl) (fun hV => ?_)
      clear hU; have hU := hV; clear hV
      try simp only [Act.put, aput]
      refine AnyU.skip (i := 34) rfl (by kernel_rfl) (by kernel_rfl) (by kernel_rfl) (fun _ _ _ h => h) (by kernel_rfl) (by assumption) (by rfl) (fun hV => ?_)
      clear hU; have hU := hV; clear hV
      try simp only [Act.put, aput]
      refine AnyU.skip (i := 35) rfl (by kernel_rfl) (by kernel_rfl) (by kernel_rfl) (fun _ _ _ h => h) (by kernel_rfl) (by assumption) (by rfl) (fun hV => ?_)
      clear hU; have hU := hV; clear hV
      try simp only [Act.put, aput]
      refine AnyU.skip (i := 36) rfl (by kernel_rfl) (by kernel_rfl) (by kernel_rfl) (fun _ _ _ h => h) (by kernel_rfl) (by assumption) (by rfl) (fun hV => ?_)
      clear hU; have hU := hV; clear hV
      try simp only [Act.put, aput]
      refine AnyU.skip (i := 37) rfl (by kernel_rfl) (by kernel_rfl) (by kernel_rfl) (fun _ _ _ h => h) (by kernel_rfl) (by assumption) (by rfl) (fun hV => ?_)
      clear hU; have hU := hV; clear hV
      try simp only [Act.put, aput]
      refine AnyU.take (i := 38) (v := ?_) rfl (by kernel_rfl) (by kernel_rfl) (by kernel_rfl) (fun _ _ _ h => h) (by kernel_rfl) (by assumption) (by rfl) ?_ (fun hV => ?_)
      rotate_left 1
      · (intro wq; go_simp; try with_reducible rfl)
      clear hU; have hU := hV; clear hV
      try simp only [Act.put, aput]
      refine AnyU.ready1 (i := 39) (by kernel_rfl) (AnyU.one rfl fun K hK => ?_)
      go_simp
      refine hK.out _ _ (Until.off (by kernel_rfl)) (fun hV => ?_)
      clear hK K
      clear hU; have hU := hV; clear hV
      try simp only [Act.put, aput]
      refine AnyU.done (by kernel_rfl) ?_
      go_wp2_with fail
      go_meet
      exact ⟨rfl, A4.out⟩
    obtain ⟨x, hx⟩ : ∃ x, a[0] = x := ⟨_, rfl⟩
    obtain ⟨y, hy⟩ : ∃ y, b[0] = y := ⟨_, rfl⟩
    obtain ⟨-, ba, oa, -, -, -, -, rfl, hba, -, -, -, -, r0, r1, -⟩ := H1.out.elem hne1 hx
    obtain ⟨-, bb, ob, -, -, -, -, rfl, hbb, -, -, -, -, s0, s1, -⟩ := H2.out.elem hne2 hy
    simp at r0 r1 s0 s1
    have hbaW : ba < w.heap.size := by omega
    have hbbW : bb < w.heap.size := by omega
    have ROWA := Lib.hid (fun (W : World) (hb : Below w.heap.size w W) => (show W.cell? ⟨ba, oa, none⟩ = some (.string x.pkg) ∧ W.cell? ⟨ba, oa + 1, none⟩ = some (.int .i64 x.major) from ⟨(hb.cell (p := ⟨ba, _, none⟩) hbaW).trans r0, (hb.cell (p := ⟨ba, _, none⟩) hbaW).trans r1⟩))
    have ROWB := Lib.hid (fun (W : World) (hb : Below w.heap.size w W) => (show W.cell? ⟨bb, ob, none⟩ = some (.string y.pkg) ∧ W.cell? ⟨bb, ob + 1, none⟩ = some (.int .i64 y.major) from ⟨(hb.cell (p := ⟨bb, _, none⟩) hbbW).trans s0, (hb.cell (p := ⟨bb, _, none⟩) hbbW).trans s1⟩))
    have hI1 : (0 : Int) < (a.length : Int) := by omega
    have hI2 : (0 : Int) < (b.length : Int) := by omega
    clear r0 r1 s0 s1
    have hh := head_at hne1 hne2 hx hy
    have HH := Lib.hid (show ((x.pkg.toList == y.pkg.toList) && (x.major == y.major)) = true by rw [← hh]; exact HHD.out)
    clear hh hx hy
    have hep : (x.pkg.toList == y.pkg.toList) = true := by have := HH.out; rw [Bool.and_eq_true] at this; exact this.1
    have hem : (x.major == y.major) = true := by have := HH.out; rw [Bool.and_eq_true] at this; exact this.2
    have hmn : (x.major != y.major) = false := by rw [bne, hem]; rfl
    refine wp_region_until [(39, fun w' => w'.cell? ⟨ba, oa, none⟩ = some (.string x.pkg) ∧ w'.cell? ⟨ba, oa + 1, none⟩ = some (.int .i64 x.major)), (39, fun w' => w'.cell? ⟨bb, ob, none⟩ = some (.string y.pkg) ∧ w'.cell? ⟨bb, ob + 1, none⟩ = some (.int .i64 y.major))] (by kernel_rfl) (Until.cons (fun _ => ROWA.out _ A2.out.drew) (Until.cons (fun _ => ROWB.out _ A2.out.drew) Until.nil)) (fun hU => ?_)
    have A2d := Lib.hid A2.out.drew
    clear A2
    have A2 := A2d
    clear A2d
    refine AnyU.take (i := 0) (v := ?_) rfl (by kernel_rfl) (by kernel_rfl) (by kernel_rfl) (fun _ _ _ h => h) (by kernel_rfl) (by assumption) (by rfl) ?_ (fun hV => ?_)
    rotate_left 1
    · (intro wq; go_simp; try with_reducible rfl)
    clear hU; have hU := hV; clear hV
    try simp only [Act.put, aput]
    refine AnyU.ready1 (i := 1) (by kernel_rfl) (AnyU.one rfl fun K hK => ?_)
    go_simp
    go_at_call 64
    refine (HMA.out _ (H1.out.under (A2.out.mono hB)) (Nat.le_trans hB A2.out.size)).mono ?_
    rintro e w3 ⟨rfl, hb⟩
    have A3 := Lib.hid (A2.out.trans (hb.mono A2.out.size))
    clear hb
    refine hK.out _ _ (Until.cons (fun _ => ROWA.out _ A3.out) (Until.cons (fun _ => ROWB.out _ A3.out) Until.nil)) (fun hV => ?_)
    clear hK K
    clear hU; have hU := hV; clear hV
    try simp only [Act.put, aput]
    refine AnyU.take (i := 2) (v := ?_) rfl (by kernel_rfl) (by kernel_rfl) (by kernel_rfl) (fun _ _ _ h => h) (by kernel_rfl) (by assumption) (by rfl) ?_ (fun hV => ?_)
    rotate_left 1
    · (intro wq; go_simp; try with_reducible rfl)
    clear hU; have hU := hV; clear hV
    try simp only [Act.put, aput]
    refine AnyU.take (i := 3) (v := ?_) rfl (by kernel_rfl) (by kernel_rfl) (by kernel_rfl) (fun _ _ _ h => h) (by kernel_rfl) (by assumption) (by rfl) ?_ (fun hV => ?_)
    rotate_left 1
    · (intro wq; go_simp; try with_reducible rfl)
    clear hU; have hU := hV; clear hV
    try simp only [Act.put, aput]
    refine AnyU.take (i := 4) (v := ?_) rfl (by kernel_rfl) (by kernel_rfl) (by kernel_rfl) (fun _ _ _ h => h) (by kernel_rfl) (by assumption) (by rfl) ?_ (fun hV => ?_)
    rotate_left 1
    · (intro wq; go_simp; try with_reducible rfl)
    clear hU; have hU := hV; clear hV
    try simp only [Act.put, aput]
    refine AnyU.ready1 (i := 5) (by kernel_rfl) (AnyU.one rfl fun K hK => ?_)
    go_simp
    go_at_call 64
    refine (HMB.out _ (H2.out.under (A3.out.mono hB)) (Nat.le_trans hB A3.out.size)).mono ?_
    rintro e w4 ⟨rfl, hb⟩
    have A4 := Lib.hid (A3.out.trans (hb.mono A3.out.size))
    clear hb
    refine hK.out _ _ (Until.cons (fun _ => ROWA.out _ A4.out) (Until.cons (fun _ => ROWB.out _ A4.out) Until.nil)) (fun hV => ?_)
    clear hK K
    clear hU; have hU := hV; clear hV
    try simp only [Act.put, aput]
    refine AnyU.take (i := 6) (v := ?_) rfl (by kernel_rfl) (by kernel_rfl) (by kernel_rfl) (fun _ _ _ h => h) (by kernel_rfl) (by assumption) (by rfl) ?_ (fun hV => ?_)
    rotate_left 1
    · (intro wq; go_simp; try with_reducible rfl)
    clear hU; have hU := hV; clear hV
    try simp only [Act.put, aput]
    refine AnyU.take (i := 7) (v := ?_) rfl (by kernel_rfl) (by kernel_rfl) (by kernel_rfl) (fun _ _ _ h => h) (by kernel_rfl) (by assumption) (by rfl) ?_ (fun hV => ?_)
    rotate_left 1
    · (intro wq; go_simp; try with_reducible rfl)
    clear hU; have hU := hV; clear hV
    try simp only [Act.put, aput]
    refine AnyU.take (i := 8) (v := ?_) rfl (by kernel_rfl) (by kernel_rfl) (by kernel_rfl) (fun _ _ _ h => h) (by kernel_rfl) (by assumption) (by rfl) ?_ (fun hV => ?_)
    rotate_left 1
    · (intro wq; go_simp; try with_reducible rfl)
    clear hU; have hU := hV; clear hV
    try simp only [Act.put, aput]
    refine AnyU.take (i := 9) (v := ?_) rfl (by kernel_rfl) (by kernel_rfl) (by kernel_rfl) (fun _ _ _ h => h) (by kernel_rfl) (by assumption) (by rfl) ?_ (fun hV => ?_)
    rotate_left 1
    · (intro wq; go_simp; try with_reducible rfl)
    clear hU; have hU := hV; clear hV
    try simp only [Act.put, aput]
    refine AnyU.take (i := 10) (v := ?_) rfl (by kernel_rfl) (by kernel_rfl) (by kernel_rfl) (fun _ _ _ h => h) (by kernel_rfl) (by assumption) (by rfl) ?_ (fun hV => ?_)
    rotate_left 1
    · (intro wq; go_simp; try with_reducible rfl)
    clear hU; have hU := hV; clear hV
    try simp only [Act.put, aput]
    refine AnyU.take (i := 11) (v := ?_) rfl (by kernel_rfl) (by kernel_rfl) (by kernel_rfl) (fun _ _ _ h => h) (by kernel_rfl) (by assumption) (by rfl) ?_ (fun hV => ?_)
    rotate_left 1
    · (intro wq; go_simp; try with_reducible rfl)
    clear hU; have hU := hV; clear hV
    try simp only [Act.put, aput]
    refine AnyU.take (i := 12) (v := ?_) rfl (by kernel_rfl) (by kernel_rfl) (by kernel_rfl) (fun _ _ _ h => h) (by kernel_rfl) (by assumption) (by rfl) ?_ (fun hV => ?_)
    rotate_left 1
    · (intro wq; go_simp; try with_reducible rfl)
    clear hU; have hU := hV; clear hV
    try simp only [Act.put, aput]
    refine AnyU.take (i := 13) (v := ?_) rfl (by kernel_rfl) (by kernel_rfl) (by kernel_rfl) (fun _ _ _ h => h) (by kernel_rfl) (by assumption) (by rfl) ?_ (fun hV => ?_)
    rotate_left 1
    · (intro wq; go_simp; try with_reducible rfl)
    clear hU; have hU := hV; clear hV
    try simp only [Act.put, aput]
    refine AnyU.take (i := 14) (v := ?_) rfl (by kernel_rfl) (by kernel_rfl) (by kernel_rfl) (fun _ _ _ h => h) (by kernel_rfl) (by assumption) (by rfl) ?_ (fun hV => ?_)
    rotate_left 1
    · (intro wq; go_simp; try with_reducible rfl)
    clear hU; have hU := hV; clear hV
    try simp only [Act.put, aput]
    refine AnyU.take (i := 15) (v := ?_) rfl (by kernel_rfl) (by kernel_rfl) (by kernel_rfl) (fun _ _ _ h => h) (by kernel_rfl) (by assumption) (by rfl) ?_ (fun hV => ?_)
    rotate_left 1
    · (intro wq; go_simp; try with_reducible rfl)
    clear hU; have hU := hV; clear hV
    try simp only [Act.put, aput]
    refine AnyU.take (i := 16) (v := ?_) rfl (by kernel_rfl) (by kernel_rfl) (by kernel_rfl) (fun _ _ _ h => h) (by kernel_rfl) (by assumption) (by rfl) ?_ (fun hV => ?_)
    rotate_left 1
    · (intro wq; go_simp; try with_reducible rfl)
    clear hU; have hU := hV; clear hV
    try simp only [Act.put, aput]
    refine AnyU.take (i := 17) (v := ?_) rfl (by kernel_rfl) (by kernel_rfl) (by kernel_rfl) (fun _ _ _ h => h) (by kernel_rfl) (by assumption) (by rfl) ?_ (fun hV => ?_)
    rotate_left 1
    · (intro wq; go_simp; try with_reducible rfl)
    clear hU; have hU := hV; clear hV
    try simp only [Act.put, aput]
    refine AnyU.take (i := 18) (v := ?_) rfl (by kernel_rfl) (by kernel_rfl) (by kernel_rfl) (fun _ _ _ h => h) (by kernel_rfl) (by assumption) (by rfl) ?_ (fun hV => ?_)
    rotate_left 1
    · (intro wq; go_simp; try with_reducible rfl)
    clear hU; have hU := hV; clear hV
    try simp only [Act.put, aput]
    refine AnyU.take (i := 19) (v := ?_) rfl (by kernel_rfl) (by kernel_rfl) (by kernel_rfl) (fun _ _ _ h => h) (by kernel_rfl) (by assumption) (by rfl) ?_ (fun hV => ?_)
    rotate_left 1
    · (intro wq; go_simp; try with_reducible rfl)
    clear hU; have hU := hV; clear hV
    try simp only [Act.put, aput]
    refine AnyU.take (i := 20) (v := ?_) rfl (by kernel_rfl) (by kernel_rfl) (by kernel_rfl) (fun _ _ _ h => h) (by kernel_rfl) (by assumption) (by rfl) ?_ (fun hV => ?_)
    rotate_left 1
    · (intro wq; go_simp; try with_reducible rfl)
    clear hU; have hU := hV; clear hV
    try simp only [Act.put, aput]
    refine AnyU.loadc (i := 21) (d := 39) [26, 27, 37, 38, 39] (Si := fun w' => w'.cell? ⟨ba, oa, none⟩ = some (.string x.pkg) ∧ w'.cell? ⟨ba, oa + 1, none⟩ = some (.int .i64 x.major)) (v := ?_) rfl (by kernel_rfl) (by kernel_rfl) (by kernel_rfl) (fun _ _ _ h => h) (by kernel_rfl) (by assumption) (by kernel_rfl) rfl (by simp) (by rfl) ?_ (fun hV => ?_)
    rotate_left 1
    · (intro wq hq; obtain ⟨u0, u1⟩ := hq; go_simp; try with_reducible rfl)
    clear hU; have hU := hV; clear hV
    try simp only [Act.put, aput]
    refine AnyU.take (i := 22) (v := ?_) rfl (by kernel_rfl) (by kernel_rfl) (by kernel_rfl) (fun _ _ _ h => h) (by kernel_rfl) (by assumption) (by rfl) ?_ (fun hV => ?_)
    rotate_left 1
    · (intro wq; go_simp; try with_reducible rfl)
    clear hU; have hU := hV; clear hV
    try simp only [Act.put, aput]
    refine AnyU.take (i := 23) (v := ?_) rfl (by kernel_rfl) (by kernel_rfl) (by kernel_rfl) (fun _ _ _ h => h) (by kernel_rfl) (by assumption) (by rfl) ?_ (fun hV => ?_)
    rotate_left 1
    · (intro wq; go_simp; try with_reducible rfl)
    clear hU; have hU := hV; clear hV
    try simp only [Act.put, aput]
    refine AnyU.take (i := 24) (v := ?_) rfl (by kernel_rfl) (by kernel_rfl) (by kernel_rfl) (fun _ _ _ h => h) (by kernel_rfl) (by assumption) (by rfl) ?_ (fun hV => ?_)
    rotate_left 1
    · (intro wq; go_simp; try with_reducible rfl)
    clear hU; have hU := hV; clear hV
    try simp only [Act.put, aput]
    refine AnyU.loadc (i := 25) (d := 39) [26, 27, 37, 38, 39] (Si := fun w' => w'.cell? ⟨bb, ob, none⟩ = some (.string y.pkg) ∧ w'.cell? ⟨bb, ob + 1, none⟩ = some (.int .i64 y.major)) (v := ?_) rfl (by kernel_rfl) (by kernel_rfl) (by kernel_rfl) (fun _ _ _ h => h) (by kernel_rfl) (by assumption) (by kernel_rfl) rfl (by simp) (by rfl) ?_ (fun hV => ?_)
    rotate_left 1
    · (intro wq hq; obtain ⟨u0, u1⟩ := hq; go_simp; try with_reducible rfl)
    clear hU; have hU := hV; clear hV
    try simp only [Act.put, aput]
    refine AnyU.take (i := 26) (v := ?_) rfl (by kernel_rfl) (by kernel_rfl) (by kernel_rfl) (fun _ _ _ h => h) (by kernel_rfl) (by assumption) (by rfl) ?_ (fun hV => ?_)
    rotate_left 1
    · (intro wq; go_simp; try with_reducible rfl)
    clear hU; have hU := hV; clear hV
    try simp only [Act.put, aput]
    refine AnyU.take (i := 27) (v := ?_) rfl (by kernel_rfl) (by kernel_rfl) (by kernel_rfl) (fun _ _ _ h => h) (by kernel_rfl) (by assumption) (by rfl) ?_ (fun hV => ?_)
    rotate_left 1
    · (intro wq; go_simp; try with_reducible rfl)
    clear hU; have hU := hV; clear hV
    try simp only [Act.put, aput]
    refine AnyU.take (i := 28) (v := ?_) rfl (by kernel_rfl) (by kernel_rfl) (by kernel_rfl) (fun _ _ _ h => h) (by kernel_rfl) (by assumption) (by rfl) ?_ (fun hV => ?_)
    rotate_left 1
    · (intro wq; go_simp; try with_reducible rfl)
    clear hU; have hU := hV; clear hV
    try simp only [Act.put, aput]
    refine AnyU.take (i := 29) (v := ?_) rfl (by kernel_rfl) (by kernel_rfl) (by kernel_rfl) (fun _ _ _ h => h) (by kernel_rfl) (by assumption) (by rfl) ?_ (fun hV => ?_)
    rotate_left 1
    · (intro wq; go_simp; try with_reducible rfl)
    clear hU; have hU := hV; clear hV
    try simp only [Act.put, aput]
    refine AnyU.take (i := 30) (v := ?_) rfl (by kernel_rfl) (by kernel_rfl) (by kernel_rfl) (fun _ _ _ h => h) (by kernel_rfl) (by assumption) (by rfl) ?_ (fun hV => ?_)
    rotate_left 1
    · (intro wq; go_simp; try with_reducible rfl)
    clear hU; have hU := hV; clear hV
    try simp only [Act.put, aput]
    refine AnyU.loadc (i := 31) (d := 39) [36, 37, 38, 39] (Si := fun w' => w'.cell? ⟨ba, oa, none⟩ = some (.string x.pkg) ∧ w'.cell? ⟨ba, oa + 1, none⟩ = some (.int .i64 x.major)) (v := ?_) rfl (by kernel_rfl) (by kernel_rfl) (by kernel_rfl) (fun _ _ _ h => h) (by kernel_rfl) (by assumption) (by kernel_rfl) rfl (by simp) (by rfl) ?_ (fun hV => ?_)
    rotate_left 1
    · (intro wq hq; obtain ⟨u0, u1⟩ := hq; go_simp; try with_reducible rfl)
    clear hU; have hU := hV; clear hV
    try simp only [Act.put, aput]
    refine AnyU.take (i := 32) (v := ?_) rfl (by kernel_rfl) (by kernel_rfl) (by kernel_rfl) (fun _ _ _ h => h) (by kernel_rfl) (by assumption) (by rfl) ?_ (fun hV => ?_)
    rotate_left 1
    · (intro wq; go_simp; try with_reducible rfl)
    clear hU; have hU := hV; clear hV
    try simp only [Act.put, aput]
    refine AnyU.take (i := 33) (v := ?_) rfl (by kernel_rfl) (by kernel_rfl) (by kernel_rfl) (fun _ _ _ h => h) (by kernel_rfl) (by assumption) (by rfl) ?_ (fun hV => ?_)
    rotate_left 1
    · (intro wq; go_simp; try with_reducible rfl)
    clear hU; have hU := hV; clear hV
    try simp only [Act.put, aput]
    refine AnyU.take (i := 34) (v := ?_) rfl (by kernel_rfl) (by kernel_rfl) (by kernel_rfl) (fun _ _ _ h => h) (by kernel_rfl) (by assumption) (by rfl) ?_ (fun hV => ?_)
    rotate_left 1
    · (intro wq; go_simp; try with_reducible rfl)
    clear hU; have hU := hV; clear hV
    try simp only [Act.put, aput]
    refine AnyU.loadc (i := 35) (d := 39) [36, 37, 38, 39] (Si := fun w' => w'.cell? ⟨bb, ob, none⟩ = some (.string y.pkg) ∧ w'.cell? ⟨bb, ob + 1, none⟩ = some (.int .i64 y.major)) (v := ?_) rfl (by kernel_rfl) (by kernel_rfl) (by kernel_rfl) (fun _ _ _ h => h) (by kernel_rfl) (by assumption) (by kernel_rfl) rfl (by simp) (by rfl) ?_ (fun hV => ?_)
    rotate_left 1
    · (intro wq hq; obtain ⟨u0, u1⟩ := hq; go_simp; try with_reducible rfl)
    clear hU; have hU := hV; clear hV
    try simp only [Act.put, aput]
    refine AnyU.take (i := 36) (v := ?_) rfl (by kernel_rfl) (by kernel_rfl) (by kernel_rfl) (fun _ _ _ h => h) (by kernel_rfl) (by assumption) (by rfl) ?_ (fun hV => ?_)
    rotate_left 1
    · (intro wq; go_simp; try with_reducible rfl)
    clear hU; have hU := hV; clear hV
    try simp only [Act.put, aput]
    refine AnyU.take (i := 37) (v := ?_) rfl (by kernel_rfl) (by kernel_rfl) (by kernel_rfl) (fun _ _ _ h => h) (by kernel_rfl) (by assumption) (by rfl) ?_ (fun hV => ?_)
    rotate_left 1
    · (intro wq; go_simp; try with_reducible rfl)
    clear hU; have hU := hV; clear hV
    try simp only [Act.put, aput]
    refine AnyU.take (i := 38) (v := ?_) rfl (by kernel_rfl) (by kernel_rfl) (by kernel_rfl) (fun _ _ _ h => h) (by kernel_rfl) (by assumption) (by rfl) ?_ (fun hV => ?_)
    rotate_left 1
    · (intro wq; go_simp; try with_reducible rfl)
    clear hU; have hU := hV; clear hV
    try simp only [Act.put, aput]
    refine AnyU.ready1 (i := 39) (by kernel_rfl) (AnyU.one rfl fun K hK => ?_)
    go_simp
    refine hK.out _ _ (Until.off (by kernel_rfl)) (fun hV => ?_)
    clear hK K
    clear hU; have hU := hV; clear hV
    try simp only [Act.put, aput]
    refine AnyU.done (by kernel_rfl) ?_
    go_wp2_with fail
    go_meet
    exact ⟨rfl, A4.out⟩
  case rest =>
  rename World => w0
  obtain ⟨rfl, hb0⟩ := hcut
  have B0 := Lib.hid hb0
  clear hb0 HMA HMB HHD A2
  go_upto_region 5 with (go_at_call 65; refine (HCN.out _ (H1.out.under (B0.out.mono hB)) (H2.out.under (B0.out.mono hB)) (Nat.le_trans hB B0.out.size)).mono ?_; rintro e w1 ⟨AU, capU, rfl, hcU, hSU, hb⟩; have B1 := Lib.hid (B0.out.trans (hb.mono B0.out.size)); have SU := Lib.hid hSU; clear hb hSU)
  go_loopw [6, 58] (fun v i wk => ∃ (k : Nat) (vv : Value), vv = v ∧ i = .int .i64 k ∧ k ≤ U.length ∧ Below w1.heap.size w1 wk ∧ wk.ownsRow w1.heap.size 83 4 vv ((U.take k).flatMap (modF a b)).length (flatC ((U.take k).flatMap (modF a b)))) (fun _ i _ => U.length - (intOf i).toNat)
  case atStart => exact ⟨0, _, rfl, rfl, Nat.zero_le _, Below.refl _ _, World.ownsRow_nil _ _ _ _⟩
  case round =>
    rename World => wk
    obtain ⟨k, vv, rfl, rfl, hk, hb, hown⟩ := hrel
    have HB := Lib.hid hb
    have HW := Lib.hid hown
    have AB := Lib.hid (B1.out.trans (hb.mono B1.out.size))
    clear hb
    by_cases hlt : k < U.length
    rotate_left
    · obtain rfl : k = U.length := by omega
      have hltI : ¬ (U.length : Int) < (U.length : Int) := by omega
      have e : U.take U.length = U := List.take_of_length_le (Nat.le_refl _)
      rw [e, HRR.out] at hown
      have HO := Lib.hid hown
      clear hown e HW
      go_wp2_with fail
      refine bodyPost_ret (by simp [results, Tryz.results36, go_sem]; try rfl) rfl ?_
      exact ⟨vv, rfl, ownsRow_base HO.out B1.out.size, AB.out⟩
    have hltI : (k : Int) < (U.length : Int) := by omega
    obtain ⟨n, hn⟩ : ∃ n, U[k] = n := ⟨_, rfl⟩
    rcases SU.out with hU0 | ⟨bu, ou, rfl, hbu, hcu⟩
    · rw [hU0] at hlt; simp at hlt
    have cu := hcu k hlt
    rw [hn, ← HB.out.cell (p := ⟨bu, _, none⟩) hbu] at cu
    have hbuR : bu < wk.heap.size := Nat.lt_of_lt_of_le hbu HB.out.size
    obtain ⟨L, hL⟩ : ∃ L, (U.take k).flatMap (modF a b) = L := ⟨_, rfl⟩
    obtain ⟨x, hx⟩ : ∃ x, (firstIface a n).getD zIf = x := ⟨_, rfl⟩
    obtain ⟨y, hy⟩ : ∃ y, (firstIface b n).getD zIf = y := ⟨_, rfl⟩
    obtain ⟨R1, hR1⟩ : ∃ R, rowsF n x.types y.types true = R := ⟨_, rfl⟩
    obtain ⟨R2, hR2⟩ : ∃ R, rowsF n x.vals y.vals false = R := ⟨_, rfl⟩
    have hnext : (U.take (k + 1)).flatMap (modF a b) = L ++ (R1 ++ R2) := by
      rw [List.take_succ_eq_append_getElem hlt, List.flatMap_append, hL, hn]
      simp [modF, hx, hy, hR1, hR2]
    have HNX := Lib.hid hnext
    have hLk := ACL.out k
    rw [hL] at HW hLk
    have ex := first_few HFA.out n
    have ey := first_few HFB.out n
    rw [hx] at ex
    rw [hy] at ey
    have l1 := rowsF_len n x.types y.types true
    have l2 := rowsF_len n x.vals y.vals false
    rw [hR1] at l1
    rw [hR2] at l2
    have hcF := fun w h hB => findIface_c A c B a n w h hB hl
    have hcG := fun w h hB => findIface_c A' c' B b n w h hB hl'
    simp only [hx] at hcF
    simp only [hy] at hcG
    obtain ⟨had, hhad⟩ : ∃ q, (firstIface a n).isSome = q := ⟨_, rfl⟩
    obtain ⟨has, hhas⟩ : ∃ q, (firstIface b n).isSome = q := ⟨_, rfl⟩
    simp only [hhad] at hcF
    simp only [hhas] at hcG
    have HCF := Lib.hid hcF
    have HCG := Lib.hid hcG
    have HR1 := Lib.hid hR1
    have HR2 := Lib.hid hR2
    have LN := Lib.hid (show L.length ≤ 1600000 ∧ R1.length ≤ 400 ∧ R2.length ≤ 400 ∧ x.types.length ≤ 200 ∧ x.vals.length ≤ 200 ∧ y.types.length ≤ 200 ∧ y.vals.length ≤ 200 from ⟨by omega, by omega, by omega, ex.1, ex.2, ey.1, ey.2⟩)
    clear hnext hcF hcG hx hy hhad hhas hR1 hR2 hn hown hL hcu hLk ex ey l1 l2
    go_upto_region 8 with (go_at_call 67; refine (HCF.out _ (H1.out.under (AB.out.mono hB)) (Nat.le_trans hB AB.out.size)).mono ?_; rintro e w2 ⟨cs, rfl, ⟨fx, ta, tc, va, vc, rfl, hT, hV, htc, hvc⟩, hb2⟩; have BB := Lib.hid hb2; have TT := Lib.hid hT; have TV := Lib.hid hV; clear hb2 hT hV fx htc hvc; simp only [ifCells])
    have A2' := Lib.hid (AB.out.trans (BB.out.mono AB.out.size))
    have XT := Lib.hid (TT.out.keep fun q hq => (A2'.out.cell (Nat.lt_of_lt_of_le hq hB)).symm)
    have XW := Lib.hid (TV.out.keep fun q hq => (A2'.out.cell (Nat.lt_of_lt_of_le hq hB)).symm)
    have HB2 := Lib.hid (HB.out.trans (BB.out.mono HB.out.size))
    have hgx : wk.heap.size ≤ w2.heap.size := BB.out.size
    have D1 := Lib.hid (Blk.new w2 #[.string x.pkg, .int .i64 x.major, .string x.mod, .slice ta x.types.length tc, .slice va x.vals.length vc] 33)
    have HB3 := Lib.hid (HB2.out.alloc HB2.out.size (.cells #[.string x.pkg, .int .i64 x.major, .string x.mod, .slice ta x.types.length tc, .slice va x.vals.length vc] 33))
    have HW3 := Lib.hid (owns_under' (owns_under' HW.out BB.out) ((Below.refl w2.heap.size w2).alloc (Nat.le_refl _) (.cells #[.string x.pkg, .int .i64 x.major, .string x.mod, .slice ta x.types.length tc, .slice va x.vals.length vc] 33)))
    generalize (w2.alloc (.cells #[.string x.pkg, .int .i64 x.major, .string x.mod, .slice ta x.types.length tc, .slice va x.vals.length vc] 33)) = w3 at D1 HB3 HW3 ⊢
    generalize w2.heap.size = gx at D1 hgx ⊢
    clear cu hbuR TT TV HB2 BB A2'
    have AB3 := Lib.hid (B1.out.trans (HB3.out.mono B1.out.size))
    go_upto_region 9 with (go_at_call 67; refine (HCG.out _ (H2.out.under (AB3.out.mono hB)) (Nat.le_trans hB AB3.out.size)).mono ?_; rintro e w4 ⟨cs, rfl, ⟨fx, ta', tc', va', vc', rfl, hT, hV, htc, hvc⟩, hb2⟩; have BB := Lib.hid hb2; have TT := Lib.hid hT; have TV := Lib.hid hV; clear hb2 hT hV fx htc hvc; simp only [ifCells])
    have A4' := Lib.hid (AB3.out.trans (BB.out.mono AB3.out.size))
    have YT := Lib.hid (TT.out.keep fun q hq => (A4'.out.cell (Nat.lt_of_lt_of_le hq hB)).symm)
    have YW := Lib.hid (TV.out.keep fun q hq => (A4'.out.cell (Nat.lt_of_lt_of_le hq hB)).symm)
    have HB4 := Lib.hid (HB3.out.trans (BB.out.mono HB3.out.size))
    have D14 := Lib.hid (D1.out.under BB.out D1.out.lt)
    have D2 := Lib.hid (Blk.new w4 #[.string y.pkg, .int .i64 y.major, .string y.mod, .slice ta' y.types.length tc', .slice va' y.vals.length vc'] 33)
    have D15 := Lib.hid (D14.out.alloc (.cells #[.string y.pkg, .int .i64 y.major, .string y.mod, .slice ta' y.types.length tc', .slice va' y.vals.length vc'] 33))
    have hgy : wk.heap.size ≤ w4.heap.size := by have := D14.out.lt; omega
    have HB5 := Lib.hid (HB4.out.alloc HB4.out.size (.cells #[.string y.pkg, .int .i64 y.major, .string y.mod, .slice ta' y.types.length tc', .slice va' y.vals.length vc'] 33))
    have HW5 := Lib.hid (owns_under' (owns_under' HW3.out BB.out) ((Below.refl w4.heap.size w4).alloc (Nat.le_refl _) (.cells #[.string y.pkg, .int .i64 y.major, .string y.mod, .slice ta' y.types.length tc', .slice va' y.vals.length vc'] 33)))
    generalize (w4.alloc (.cells #[.string y.pkg, .int .i64 y.major, .string y.mod, .slice ta' y.types.length tc', .slice va' y.vals.length vc'] 33)) = w5 at D15 D2 HB5 HW5 ⊢
    generalize w4.heap.size = gy at D2 hgy ⊢
    clear D14 HB4 BB TT TV HW3 HB3 D1 A4' AB3
    have hC1 := fun w h h2 hB => rows_c n ta ta' tc tc' B x.types y.types true w h h2 hB (by have := LN.out; omega) (by have := LN.out; omega)
    have hC2 := fun w h h2 hB => rows_c n va va' vc vc' B x.vals y.vals false w h h2 hB (by have := LN.out; omega) (by have := LN.out; omega)
    simp only [HR1.out] at hC1
    simp only [HR2.out] at hC2
    have HC1 := Lib.hid hC1
    have HC2 := Lib.hid hC2
    clear hC1 hC2
    have A5 := Lib.hid (B1.out.trans (HB5.out.mono B1.out.size))
    obtain ⟨k0, k1, k2, k3, k4⟩ := cells5 D15.out
    obtain ⟨j0, j1, j2, j3, j4⟩ := cells5 D2.out
    have lx := D15.out.lt
    have ly := D2.out.lt
    have hself : ∀ q, vv.ownBlock = some q → q < wk.heap.size := fun q hq => (owns_lt' HW.out hq).2
    have HSELF := Lib.hid hself
    clear hself
    go_cut [6] (fun v wx => ∃ v8, v8 = v ∧ Below w1.heap.size w1 wx ∧ wx.ownsRow w1.heap.size 83 4 v8 (L.length + R1.length) (flatC L ++ flatC R1) ∧ Blk wx gx #[.string x.pkg, .int .i64 x.major, .string x.mod, .slice ta x.types.length tc, .slice va x.vals.length vc] 33 ∧ Blk wx gy #[.string y.pkg, .int .i64 y.major, .string y.mod, .slice ta' y.types.length tc', .slice va' y.vals.length vc'] 33)
    case first =>
      go_wp2_with fail
      refine (HC1.out _ (XT.out.under (A5.out.mono hB)) (YT.out.under (A5.out.mono hB)) (Nat.le_trans hB A5.out.size)).mono ?_
      rintro e w6 ⟨v6, rfl, hown6, hb6⟩
      have O6 := Lib.hid hown6
      have HB6 := Lib.hid (HB5.out.trans (hb6.mono HB5.out.size))
      have HW6 := Lib.hid (owns_under' HW5.out hb6)
      have E15 := Lib.hid (D15.out.under hb6 D15.out.lt)
      have E2 := Lib.hid (D2.out.under hb6 D2.out.lt)
      clear hown6 hb6 k0 k1 k2 k3 k4 j0 j1 j2 j3 j4 lx ly
      rcases own_src O6.out with ⟨rfl, h0, hnil⟩ | ⟨g6, cap6, rfl, hsrc⟩
      · go_wp2_with (at_builtin; refine wpList_append_own_none rfl _ _ 79 rfl w1.heap.size 83 i0 4 Tryz.underlying79 hi vv L.length (flatC L) rfl HW6.out rfl ?_)
        go_meet
        have hR0 : R1.length = 0 := h0
        exact ⟨vv, rfl, HB6.out, by rw [hnil, List.append_nil, hR0]; exact HW6.out, E15.out, E2.out⟩
      · have HSRC := Lib.hid hsrc
        have hlc := flatC_len R1
        have HLC := Lib.hid hlc
        clear hsrc hlc
        go_wp2_with (at_builtin; refine wpList_append_own _ rfl _ _ 79 rfl w1.heap.size 83 i0 (.agg #[.int .i64 0, .string { data := #[] }, .string { data := #[] }, .bool false]) 4 48 Tryz.underlying79 hi hz0 hz1 hz2 rfl (by decide) vv L.length (flatC L) rfl HW6.out ⟨g6, 0, none⟩ R1.length cap6 (flatC R1) rfl ?qc1 ?qc2 ?qc3 ?qc4 ?qc5 ?qc6 ?_)
        case qc1 => exact HLC.out
        case qc2 => exact HSRC.out
        case qc3 => exact flatC_one R1
        case qc4 => have := LN.out; unfold maxLen; omega
        case qc5 => have := LN.out; omega
        case qc6 => exact HB6.out.size
        intro v' w7 hown7 hgrow hnil
        have hb7 : Below w1.heap.size w1 w7 := HB6.out.grown hgrow HB6.out.size (fun q hq => (owns_lt' HW6.out hq).1)
        have F15 : Blk w7 gx #[.string x.pkg, .int .i64 x.major, .string x.mod, .slice ta x.types.length tc, .slice va x.vals.length vc] 33 := (hgrow.block gx E15.out.lt (fun e => by have := HSELF.out gx e.symm; omega)).trans E15.out
        have F2 : Blk w7 gy #[.string y.pkg, .int .i64 y.major, .string y.mod, .slice ta' y.types.length tc', .slice va' y.vals.length vc'] 33 := (hgrow.block gy E2.out.lt (fun e => by have := HSELF.out gy e.symm; omega)).trans E2.out
        have G := Lib.hid (And.intro hb7 (And.intro hown7 (And.intro F15 F2)))
        clear hb7 hown7 F15 F2 hgrow hnil
        go_wp2_with fail
        go_meet
        exact ⟨v', rfl, G.out.1, G.out.2.1, G.out.2.2.1, G.out.2.2.2⟩
    case rest =>
    rename World => w8
    obtain ⟨v8, rfl, hb8, hown8, d8, e8⟩ := hcut
    have HB8 := Lib.hid hb8
    have HW8 := Lib.hid hown8
    have A8 := Lib.hid (B1.out.trans (hb8.mono B1.out.size))
    clear k0 k1 k2 k3 k4 j0 j1 j2 j3 j4 lx ly
    obtain ⟨k0, k1, k2, k3, k4⟩ := cells5 d8
    obtain ⟨j0, j1, j2, j3, j4⟩ := cells5 e8
    have lx := d8.lt
    have ly := e8.lt
    clear hb8 hown8 d8 e8 D15 D2 HW5 HB5 A5 HW HB
    go_upto_region 10 with fail
    go_wp2_with fail
    refine (HC2.out _ (XW.out.under (A8.out.mono hB)) (YW.out.under (A8.out.mono hB)) (Nat.le_trans hB A8.out.size)).mono ?_
    rintro e w6 ⟨v6, rfl, hown6, hb6⟩
    have O6 := Lib.hid hown6
    have HB6 := Lib.hid (HB8.out.trans (hb6.mono HB8.out.size))
    have HW6 := Lib.hid (owns_under' HW8.out hb6)
    clear hown6 hb6 k0 k1 k2 k3 k4 j0 j1 j2 j3 j4 lx ly
    rcases own_src O6.out with ⟨rfl, h0, hnil⟩ | ⟨g6, cap6, rfl, hsrc⟩
    · go_wp2_with (at_builtin; refine wpList_append_own_none rfl _ _ 79 rfl w1.heap.size 83 i0 4 Tryz.underlying79 hi v8 (L.length + R1.length) (flatC L ++ flatC R1) rfl HW6.out rfl ?_)
      have hR0 : R2.length = 0 := h0
      exact ⟨⟨k + 1, v8, rfl, by go_num, by omega, HB6.out, by rw [HNX.out, flatC_app, flatC_app, List.length_append, List.length_append, ← Nat.add_assoc, ← List.append_assoc]; rw [hnil, List.append_nil, hR0]; exact HW6.out⟩, by simp [intOf]; omega⟩
    · have HSRC := Lib.hid hsrc
      have hlc := flatC_len R2
      have HLC := Lib.hid hlc
      clear hsrc hlc
      go_wp2_with (at_builtin; refine wpList_append_own _ rfl _ _ 79 rfl w1.heap.size 83 i0 (.agg #[.int .i64 0, .string { data := #[] }, .string { data := #[] }, .bool false]) 4 48 Tryz.underlying79 hi hz0 hz1 hz2 rfl (by decide) v8 (L.length + R1.length) (flatC L ++ flatC R1) rfl HW6.out ⟨g6, 0, none⟩ R2.length cap6 (flatC R2) rfl ?qc1 ?qc2 ?qc3 ?qc4 ?qc5 ?qc6 ?_)
      case qc1 => exact HLC.out
      case qc2 => exact HSRC.out
      case qc3 => exact flatC_one R2
      case qc4 => have := LN.out; unfold maxLen; omega
      case qc5 => have := LN.out; omega
      case qc6 => exact HB6.out.size
      intro v' w7 hown7 hgrow hnil
      have hb7 : Below w1.heap.size w1 w7 := HB6.out.grown hgrow HB6.out.size (fun q hq => (owns_lt' HW6.out hq).1)
      have G := Lib.hid (And.intro hb7 hown7)
      clear hb7 hown7 hgrow hnil
      go_wp2_with fail
      exact ⟨⟨k + 1, v', rfl, by go_num, by omega, G.out.1, by rw [HNX.out, flatC_app, flatC_app, List.length_append, List.length_append, ← Nat.add_assoc, ← List.append_assoc]; first | exact G.out.2 | (rw [List.append_assoc]; exact G.out.2)⟩, by simp [intOf]; omega⟩
end Go.Proofs.YtjeldfipipkfiaaGreat
