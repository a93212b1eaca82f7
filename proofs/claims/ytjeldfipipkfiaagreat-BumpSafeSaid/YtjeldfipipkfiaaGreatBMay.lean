/- The contracts of bump.May and of merlonref12.May; memory: a row of interfaces. -/
import Derived.Test.YtjeldfipipkfiaaGreatIfM
namespace Go.Proofs.YtjeldfipipkfiaaGreat
open Go.RowKit
set_option linter.unusedSimpArgs false
set_option linter.unusedVariables false
def ipOk (l : List If) (i : Nat) : Bool := if h : i < l.length then imayB l[i] && ((l[i].pkg.toList == (l[0]'(by omega)).pkg.toList) && ((l[i].major == (l[0]'(by omega)).major) && (decide (i = 0) || ltB (l[i - 1]'(by omega)).mod l[i].mod))) else true
def mayP (l : List If) : Bool := (List.range l.length).all (ipOk l) && decide (l.length ≤ 20)
theorem mayP_bad {l : List If} {k : Nat} (hk : k < l.length) (h : ipOk l k = false) : mayP l = false := by
  rw [mayP, Bool.and_eq_false_iff]
  left
  rw [List.all_eq_false]
  exact ⟨k, List.mem_range.2 hk, by simp [h]⟩
theorem mayP_all {l : List If} (h : ∀ i, i < l.length → ipOk l i = true) : mayP l = decide (l.length ≤ 20) := by
  have : (List.range l.length).all (ipOk l) = true := by
    rw [List.all_eq_true]
    intro i hi
    exact h i (List.mem_range.1 hi)
  rw [mayP, this, Bool.true_and]
set_option maxRecDepth 100000 in
set_option maxHeartbeats 40000000 in
theorem bumpMay_c (l : List If) (A : Option Addr) (cap B : Nat) (w : World) (h : IfsAt w B A l) (hB : B ≤ w.heap.size) (hl : l.length ≤ maxLen) :
    Calls Tryz.prog 64 #[.slice A l.length cap] w fun e w' => e = .returned (.bool (mayP l)) ∧ Below w.heap.size w w' := by
  obtain ⟨R, hR⟩ : ∃ R, mayP l = R := ⟨_, rfl⟩
  rw [hR]
  have HR := Lib.hid hR
  have H := Lib.hid h
  unfold maxLen at hl
  clear hR h
  go_enter Tryz.func64, Tryz.ntmps64
  go_wp2_with fail
  go_loopw [7] (fun iv wr => ∃ k : Nat, iv = .int .i64 k ∧ k ≤ l.length ∧ Below w.heap.size w wr ∧ ∀ i, i < k → ipOk l i = true) (fun iv _ => l.length - (intOf iv).toNat)
  case atStart => exact ⟨0, rfl, Nat.zero_le _, Below.refl _ _, fun i hi => absurd hi (by omega)⟩
  case round =>
    obtain ⟨k, rfl, hk, hb1, hall⟩ := hrel
    have A1 := Lib.hid hb1
    have HA := Lib.hid hall
    clear hb1 hall
    by_cases hlt : k < l.length
    rotate_left
    · obtain rfl : k = l.length := by omega
      have hltI : ¬ (l.length : Int) < (l.length : Int) := by omega
      go_wp2_with fail
      go_ret
      exact ⟨ret_b (by rw [← HR.out, mayP_all HA.out]; simp; omega), A1.out⟩
    have hltI : (k : Int) < (l.length : Int) := by omega
    obtain ⟨x, hx⟩ : ∃ x, l[k] = x := ⟨_, rfl⟩
    obtain ⟨y, hy⟩ : ∃ y, (l[0]'(by omega)) = y := ⟨_, rfl⟩
    obtain ⟨fx, b, o, ta, tc, va, vc, rfl, hbB, hT, hV, htc, hvc, c0, c1, c2, c3, c4⟩ := H.out.elem hlt hx
    obtain ⟨-, b', o', -, -, -, -, e', -, -, -, -, -, r0, r1, -⟩ := H.out.elem (show 0 < l.length by omega) hy
    injection e' with e'
    injection e' with e1 e2
    subst e1 e2
    simp at r0 r1
    have hbW : b < w.heap.size := by omega
    have hbR : b < wr.heap.size := Nat.lt_of_lt_of_le hbW A1.out.size
    have ROW0 := Lib.hid (fun (W : World) (hb : Below w.heap.size w W) => (show W.cell? ⟨b, o, none⟩ = some (.string y.pkg) ∧ W.cell? ⟨b, o + 1, none⟩ = some (.int .i64 y.major) from ⟨(hb.cell (p := ⟨b, _, none⟩) hbW).trans r0, (hb.cell (p := ⟨b, _, none⟩) hbW).trans r1⟩))
    have HTY := Lib.hid hT
    have HVL := Lib.hid hV
    rw [← A1.out.cell (p := ⟨b, _, none⟩) hbW] at c0 c1 c2 c3 c4
    have hC1 := fun w h h2 h3 => ifMay_c x ta tc va vc B w fx h h2 h3
    obtain ⟨s, hs⟩ : ∃ s, imayB x = s := ⟨_, rfl⟩
    simp only [hs, ifCells] at hC1
    have HC1 := Lib.hid hC1
    have hdO : ipOk l k = (s && ((x.pkg.toList == y.pkg.toList) && ((x.major == y.major) && (decide (k = 0) || ltB (l[k - 1]'(by omega)).mod x.mod)))) := by
      rw [ipOk, dif_pos hlt]
      simp only [hx, hy, hs]
    have HDO := Lib.hid hdO
    have HXY := Lib.hid (show k = 0 → x = y from fun e => by subst e; rw [← hx, ← hy])
    clear hdO hC1 hs hT hV hx hy r0 r1 fx
    go_upto_region 4 with fail
    have BD := Lib.hid (Blk.new wr #[.string x.pkg, .int .i64 x.major, .string x.mod, .slice ta x.types.length tc, .slice va x.vals.length vc] 33)
    have A2 := Lib.hid (A1.out.alloc A1.out.size (.cells #[.string x.pkg, .int .i64 x.major, .string x.mod, .slice ta x.types.length tc, .slice va x.vals.length vc] 33))
    generalize hw : (wr.alloc (.cells #[.string x.pkg, .int .i64 x.major, .string x.mod, .slice ta x.types.length tc, .slice va x.vals.length vc] 33)) = wd at A2 BD ⊢
    clear hw c0 c1 c2 c3 c4 hbR
    generalize wr.heap.size = bd at BD ⊢
    cases s
    · as_aux_lemma =>
        have hbad := mayP_bad hlt (by rw [HDO.out]; rfl)
        rw [HR.out] at hbad
        subst hbad
        refine wp_region_until [(1, fun w' => Blk w' bd #[.string x.pkg, .int .i64 x.major, .string x.mod, .slice ta x.types.length tc, .slice va x.vals.length vc] 33)] (by kernel_rfl) (Until.cons (fun _ => BD.out.drew) Until.nil) (fun hU => ?_)
        have A2d := Lib.hid A2.out.drew
        clear A2
        have A2 := A2d
        clear A2d
        have BD2 := Lib.hid BD.out.drew
        refine AnyU.loadc (i := 0) (d := 1) [1] (Si := fun w' => Blk w' bd #[.string x.pkg, .int .i64 x.major, .string x.mod, .slice ta x.types.length tc, .slice va x.vals.length vc] 33) (v := ?_) rfl (by kernel_rfl) (by kernel_rfl) (by kernel_rfl) (fun _ _ _ h => h) (by kernel_rfl) (by assumption) (by kernel_rfl) rfl (by simp) (by rfl) ?_ (fun hV => ?_)
        rotate_left 1
        · (intro wq hq; obtain ⟨u0, u1, u2, u3, u4⟩ := cells5 hq; go_simp; try with_reducible rfl)
        clear hU; have hU := hV; clear hV
        try simp only [Act.put, aput]
        refine AnyU.ready1 (i := 1) (by kernel_rfl) (AnyU.one rfl fun K hK => ?_)
        go_simp
        go_at_call 12
        refine (HC1.out _ (HTY.out.under (A2.out.mono hB)) (HVL.out.under (A2.out.mono hB)) (Nat.le_trans hB A2.out.size)).mono ?_
        rintro e w3 ⟨rfl, hb⟩
        have A3 := Lib.hid (A2.out.trans (hb.mono A2.out.size))
        have BD3 := Lib.hid (BD2.out.under hb BD2.out.lt)
        clear hb
        refine hK.out _ _ (Until.cons (fun h => absurd h (by decide)) Until.nil) (fun hV => ?_)
        clear hK K
        clear hU; have hU := hV; clear hV
        try simp only [Act.put, aput]
        refine AnyU.take (i := 2) (v := ?_) rfl (by kernel_rfl) (by kernel_rfl) (by kernel_rfl) (fun _ _ _ h => h) (by kernel_rfl) (by assumption) (by rfl) ?_ (fun hV => ?_)
        rotate_left 1
        · (intro wq; go_simp; try with_reducible rfl)
        clear hU; have hU := hV; clear hV
        try simp only [Act.put, aput]
        refine AnyU.take (i := 3) (v := ?_) rfl (by kernel_rfl) (by kernel_rfl) (by kernel_rfl) (fun _ _ _ h => h) (by kernel_rfl) (by assumption) (by rfl) ?_ (fun hV => ?_)
        rotate_left 1
        · (intro wq; go_simp; try with_reducible rfl)
        clear hU; have hU := hV; clear hV
        try simp only [Act.put, aput]
        refine AnyU.skip (i := 4) rfl (by kernel_rfl) (by kernel_rfl) (by kernel_rfl) (fun _ _ _ h => h) (by kernel_rfl) (by assumption) (by rfl) (fun hV => ?_)
        clear hU; have hU := hV; clear hV
        try simp only [Act.put, aput]
        refine AnyU.skip (i := 5) rfl (by kernel_rfl) (by kernel_rfl) (by kernel_rfl) (fun _ _ _ h => h) (by kernel_rfl) (by assumption) (by rfl) (fun hV => ?_)
        clear hU; have hU := hV; clear hV
        try simp only [Act.put, aput]
        refine AnyU.skip (i := 6) rfl (by kernel_rfl) (by kernel_rfl) (by kernel_rfl) (fun _ _ _ h => h) (by kernel_rfl) (by assumption) (by rfl) (fun hV => ?_)
        clear hU; have hU := hV; clear hV
        try simp only [Act.put, aput]
        refine AnyU.skip (i := 7) rfl (by kernel_rfl) (by kernel_rfl) (by kernel_rfl) (fun _ _ _ h => h) (by kernel_rfl) (by assumption) (by rfl) (fun hV => ?_)
        clear hU; have hU := hV; clear hV
        try simp only [Act.put, aput]
        refine AnyU.skip (i := 8) rfl (by kernel_rfl) (by kernel_rfl) (by kernel_rfl) (fun _ _ _ h => h) (by kernel_rfl) (by assumption) (by rfl) (fun hV => ?_)
        clear hU; have hU := hV; clear hV
        try simp only [Act.put, aput]
        refine AnyU.skip (i := 9) rfl (by kernel_rfl) (by kernel_rfl) (by kernel_rfl) (fun _ _ _ h => h) (by kernel_rfl) (by assumption) (by rfl) (fun hV => ?_)
        clear hU; have hU := hV; clear hV
        try simp only [Act.put, aput]
        refine AnyU.skip (i := 10) rfl (by kernel_rfl) (by kernel_rfl) (by kernel_rfl) (fun _ _ _ h => h) (by kernel_rfl) (by assumption) (by rfl) (fun hV => ?_)
        clear hU; have hU := hV; clear hV
        try simp only [Act.put, aput]
        refine AnyU.skip (i := 11) rfl (by kernel_rfl) (by kernel_rfl) (by kernel_rfl) (fun _ _ _ h => h) (by kernel_rfl) (by assumption) (by rfl) (fun hV => ?_)
        clear hU; have hU := hV; clear hV
        try simp only [Act.put, aput]
        refine AnyU.skip (i := 12) rfl (by kernel_rfl) (by kernel_rfl) (by kernel_rfl) (fun _ _ _ h => h) (by kernel_rfl) (by assumption) (by rfl) (fun hV => ?_)
        clear hU; have hU := hV; clear hV
        try simp only [Act.put, aput]
        refine AnyU.skip (i := 13) rfl (by kernel_rfl) (by kernel_rfl) (by kernel_rfl) (fun _ _ _ h => h) (by kernel_rfl) (by assumption) (by rfl) (fun hV => ?_)
        clear hU; have hU := hV; clear hV
        try simp only [Act.put, aput]
        refine AnyU.skip (i := 14) rfl (by kernel_rfl) (by kernel_rfl) (by kernel_rfl) (fun _ _ _ h => h) (by kernel_rfl) (by assumption) (by rfl) (fun hV => ?_)
        clear hU; have hU := hV; clear hV
        try simp only [Act.put, aput]
        refine AnyU.skip (i := 15) rfl (by kernel_rfl) (by kernel_rfl) (by kernel_rfl) (fun _ _ _ h => h) (by kernel_rfl) (by assumption) (by rfl) (fun hV => ?_)
        clear hU; have hU := hV; clear hV
        try simp only [Act.put, aput]
        refine AnyU.skip (i := 16) rfl (by kernel_rfl) (by kernel_rfl) (by kernel_rfl) (fun _ _ _ h => h) (by kernel_rfl) (by assumption) (by rfl) (fun hV => ?_)
        clear hU; have hU := hV; clear hV
        try simp only [Act.put, aput]
        refine AnyU.skip (i := 17) rfl (by kernel_rfl) (by kernel_rfl) (by kernel_rfl) (fun _ _ _ h => h) (by kernel_rfl) (by assumption) (by rfl) (fun hV => ?_)
        clear hU; have hU := hV; clear hV
        try simp only [Act.put, aput]
        refine AnyU.skip (i := 18) rfl (by kernel_rfl) (by kernel_rfl) (by kernel_rfl) (fun _ _ _ h => h) (by kernel_rfl) (by assumption) (by rfl) (fun hV => ?_)
        clear hU; have hU := hV; clear hV
        try simp only [Act.put, aput]
        refine AnyU.skip (i := 19) rfl (by kernel_rfl) (by kernel_rfl) (by kernel_rfl) (fun _ _ _ h => h) (by kernel_rfl) (by assumption) (by rfl) (fun hV => ?_)
        clear hU; have hU := hV; clear hV
        try simp only [Act.put, aput]
        refine AnyU.skip (i := 20) rfl (by kernel_rfl) (by kernel_rfl) (by kernel_rfl) (fun _ _ _ h => h) (by kernel_rfl) (by assumption) (by rfl) (fun hV => ?_)
        clear hU; have hU := hV; clear hV
        try simp only [Act.put, aput]
        refine AnyU.skip (i := 21) rfl (by kernel_rfl) (by kernel_rfl) (by kernel_rfl) (fun _ _ _ h => h) (by kernel_rfl) (by assumption) (by rfl) (fun hV => ?_)
        clear hU; have hU := hV; clear hV
        try simp only [Act.put, aput]
        refine AnyU.skip (i := 22) rfl (by kernel_rfl) (by kernel_rfl) (by kernel_rfl) (fun _ _ _ h => h) (by kernel_rfl) (by assumption) (by rfl) (fun hV => ?_)
        clear hU; have hU := hV; clear hV
        try simp only [Act.put, aput]
        refine AnyU.skip (i := 23) rfl (by kernel_rfl) (by kernel_rfl) (by kernel_rfl) (fun _ _ _ h => h) (by kernel_rfl) (by assumption) (by rfl) (fun hV => ?_)
        clear hU; have hU := hV; clear hV
        try simp only [Act.put, aput]
        refine AnyU.skip (i := 24) rfl (by kernel_rfl) (by kernel_rfl) (by kernel_rfl) (fun _ _ _ h => h) (by kernel_rfl) (by assumption) (by rfl) (fun hV => ?_)
        clear hU; have hU := hV; clear hV
        try simp only [Act.put, aput]
        refine AnyU.skip (i := 25) rfl (by kernel_rfl) (by kernel_rfl) (by kernel_rfl) (fun _ _ _ h => h) (by kernel_rfl) (by assumption) (by rfl) (fun hV => ?_)
        clear hU; have hU := hV; clear hV
        try simp only [Act.put, aput]
        refine AnyU.skip (i := 26) rfl (by kernel_rfl) (by kernel_rfl) (by kernel_rfl) (fun _ _ _ h => h) (by kernel_rfl) (by assumption) (by rfl) (fun hV => ?_)
        clear hU; have hU := hV; clear hV
        try simp only [Act.put, aput]
        refine AnyU.skip (i := 27) rfl (by kernel_rfl) (by kernel_rfl) (by kernel_rfl) (fun _ _ _ h => h) (by kernel_rfl) (by assumption) (by rfl) (fun hV => ?_)
        clear hU; have hU := hV; clear hV
        try simp only [Act.put, aput]
        refine AnyU.skip (i := 28) rfl (by kernel_rfl) (by kernel_rfl) (by kernel_rfl) (fun _ _ _ h => h) (by kernel_rfl) (by assumption) (by rfl) (fun hV => ?_)
        clear hU; have hU := hV; clear hV
        try simp only [Act.put, aput]
        refine AnyU.skip (i := 29) rfl (by kernel_rfl) (by kernel_rfl) (by kernel_rfl) (fun _ _ _ h => h) (by kernel_rfl) (by assumption) (by rfl) (fun hV => ?_)
        clear hU; have hU := hV; clear hV
        try simp only [Act.put, aput]
        refine AnyU.skip (i := 30) rfl (by kernel_rfl) (by kernel_rfl) (by kernel_rfl) (fun _ _ _ h => h) (by kernel_rfl) (by assumption) (by rfl) (fun hV => ?_)
        clear hU; have hU := hV; clear hV
        try simp only [Act.put, aput]
        refine AnyU.skip (i := 31) rfl (by kernel_rfl) (by kernel_rfl) (by kernel_rfl) (fun _ _ _ h => h) (by kernel_rfl) (by assumption) (by rfl) (fun hV => ?_)
        clear hU; have hU := hV; clear hV
        try simp only [Act.put, aput]
        refine AnyU.skip (i := 32) rfl (by kernel_rfl) (by kernel_rfl) (by kernel_rfl) (fun _ _ _ h => h) (by kernel_rfl) (by assumption) (by rfl) (fun hV => ?_)
        clear hU; have hU := hV; clear hV
        try simp only [Act.put, aput]
        refine AnyU.skip (i := 33) rfl (by kernel_rfl) (by kernel_rfl) (by kernel_rfl) (fun _ _ _ h => h) (by kernel_rfl) (by assumption) (by rfl) (fun hV => ?_)
        clear hU; have hU := hV; clear hV
        try simp only [Act.put, aput]
        refine AnyU.skip (i := 34) rfl (by kernel_rfl) (by kernel_rfl) (by kernel_rfl) (fun _ _ _ h => h) (by kernel_rfl) (by assumption) (by rfl) (fun hV => ?_)
        clear hU; have hU := hV; clear hV
        try simp only [Act.put, aput]
        refine AnyU.ready1 (i := 35) (by kernel_rfl) (AnyU.one rfl fun K hK => ?_)
        go_simp
        refine hK.out _ _ (Until.off (by kernel_rfl)) (fun hV => ?_)
        clear hK K
        clear hU; have hU := hV; clear hV
        try simp only [Act.put, aput]
        refine AnyU.done (by kernel_rfl) ?_
        go_wp2_with fail
        go_ret
        exact ⟨rfl, A3.out⟩
    by_cases h0 : k = 0
    · as_aux_lemma =>
        subst h0
        have hxy := HXY.out rfl
        have hok : ipOk l 0 = true := by rw [HDO.out, hxy]; simp
        clear hxy
        refine wp_region_until [(1, fun w' => Blk w' bd #[.string x.pkg, .int .i64 x.major, .string x.mod, .slice ta x.types.length tc, .slice va x.vals.length vc] 33)] (by kernel_rfl) (Until.cons (fun _ => BD.out.drew) Until.nil) (fun hU => ?_)
        have A2d := Lib.hid A2.out.drew
        clear A2
        have A2 := A2d
        clear A2d
        have BD2 := Lib.hid BD.out.drew
        refine AnyU.loadc (i := 0) (d := 1) [1] (Si := fun w' => Blk w' bd #[.string x.pkg, .int .i64 x.major, .string x.mod, .slice ta x.types.length tc, .slice va x.vals.length vc] 33) (v := ?_) rfl (by kernel_rfl) (by kernel_rfl) (by kernel_rfl) (fun _ _ _ h => h) (by kernel_rfl) (by assumption) (by kernel_rfl) rfl (by simp) (by rfl) ?_ (fun hV => ?_)
        rotate_left 1
        · (intro wq hq; obtain ⟨u0, u1, u2, u3, u4⟩ := cells5 hq; go_simp; try with_reducible rfl)
        clear hU; have hU := hV; clear hV
        try simp only [Act.put, aput]
        refine AnyU.ready1 (i := 1) (by kernel_rfl) (AnyU.one rfl fun K hK => ?_)
        go_simp
        go_at_call 12
        refine (HC1.out _ (HTY.out.under (A2.out.mono hB)) (HVL.out.under (A2.out.mono hB)) (Nat.le_trans hB A2.out.size)).mono ?_
        rintro e w3 ⟨rfl, hb⟩
        have A3 := Lib.hid (A2.out.trans (hb.mono A2.out.size))
        have BD3 := Lib.hid (BD2.out.under hb BD2.out.lt)
        clear hb
        refine hK.out _ _ (Until.cons (fun h => absurd h (by decide)) Until.nil) (fun hV => ?_)
        clear hK K
        clear hU; have hU := hV; clear hV
        try simp only [Act.put, aput]
        refine AnyU.take (i := 2) (v := ?_) rfl (by kernel_rfl) (by kernel_rfl) (by kernel_rfl) (fun _ _ _ h => h) (by kernel_rfl) (by assumption) (by rfl) ?_ (fun hV => ?_)
        rotate_left 1
        · (intro wq; go_simp; try with_reducible rfl)
        clear hU; have hU := hV; clear hV
        try simp only [Act.put, aput]
        refine AnyU.take (i := 3) (v := ?_) rfl (by kernel_rfl) (by kernel_rfl) (by kernel_rfl) (fun _ _ _ h => h) (by kernel_rfl) (by assumption) (by rfl) ?_ (fun hV => ?_)
        rotate_left 1
        · (intro wq; go_simp; try with_reducible rfl)
        clear hU; have hU := hV; clear hV
        try simp only [Act.put, aput]
        refine AnyU.take (i := 4) (v := ?_) rfl (by kernel_rfl) (by kernel_rfl) (by kernel_rfl) (fun _ _ _ h => h) (by kernel_rfl) (by assumption) (by rfl) ?_ (fun hV => ?_)
        rotate_left 1
        · (intro wq; go_simp; try with_reducible rfl)
        clear hU; have hU := hV; clear hV
        try simp only [Act.put, aput]
        refine AnyU.take (i := 5) (v := ?_) rfl (by kernel_rfl) (by kernel_rfl) (by kernel_rfl) (fun _ _ _ h => h) (by kernel_rfl) (by assumption) (by rfl) ?_ (fun hV => ?_)
        rotate_left 1
        · (intro wq; go_simp; try with_reducible rfl)
        clear hU; have hU := hV; clear hV
        try simp only [Act.put, aput]
        refine AnyU.take (i := 6) (v := ?_) rfl (by kernel_rfl) (by kernel_rfl) (by kernel_rfl) (fun _ _ _ h => h) (by kernel_rfl) (by assumption) (by rfl) ?_ (fun hV => ?_)
        rotate_left 1
        · (intro wq; go_simp; try with_reducible rfl)
        clear hU; have hU := hV; clear hV
        try simp only [Act.put, aput]
        refine AnyU.skip (i := 7) rfl (by kernel_rfl) (by kernel_rfl) (by kernel_rfl) (fun _ _ _ h => h) (by kernel_rfl) (by assumption) (by rfl) (fun hV => ?_)
        clear hU; have hU := hV; clear hV
        try simp only [Act.put, aput]
        refine AnyU.skip (i := 8) rfl (by kernel_rfl) (by kernel_rfl) (by kernel_rfl) (fun _ _ _ h => h) (by kernel_rfl) (by assumption) (by rfl) (fun hV => ?_)
        clear hU; have hU := hV; clear hV
        try simp only [Act.put, aput]
        refine AnyU.skip (i := 9) rfl (by kernel_rfl) (by kernel_rfl) (by kernel_rfl) (fun _ _ _ h => h) (by kernel_rfl) (by assumption) (by rfl) (fun hV => ?_)
        clear hU; have hU := hV; clear hV
        try simp only [Act.put, aput]
        refine AnyU.skip (i := 10) rfl (by kernel_rfl) (by kernel_rfl) (by kernel_rfl) (fun _ _ _ h => h) (by kernel_rfl) (by assumption) (by rfl) (fun hV => ?_)
        clear hU; have hU := hV; clear hV
        try simp only [Act.put, aput]
        refine AnyU.skip (i := 11) rfl (by kernel_rfl) (by kernel_rfl) (by kernel_rfl) (fun _ _ _ h => h) (by kernel_rfl) (by assumption) (by rfl) (fun hV => ?_)
        clear hU; have hU := hV; clear hV
        try simp only [Act.put, aput]
        refine AnyU.skip (i := 12) rfl (by kernel_rfl) (by kernel_rfl) (by kernel_rfl) (fun _ _ _ h => h) (by kernel_rfl) (by assumption) (by rfl) (fun hV => ?_)
        clear hU; have hU := hV; clear hV
        try simp only [Act.put, aput]
        refine AnyU.skip (i := 13) rfl (by kernel_rfl) (by kernel_rfl) (by kernel_rfl) (fun _ _ _ h => h) (by kernel_rfl) (by assumption) (by rfl) (fun hV => ?_)
        clear hU; have hU := hV; clear hV
        try simp only [Act.put, aput]
        refine AnyU.skip (i := 14) rfl (by kernel_rfl) (by kernel_rfl) (by kernel_rfl) (fun _ _ _ h => h) (by kernel_rfl) (by assumption) (by rfl) (fun hV => ?_)
        clear hU; have hU := hV; clear hV
        try simp only [Act.put, aput]
        refine AnyU.skip (i := 15) rfl (by kernel_rfl) (by kernel_rfl) (by kernel_rfl) (fun _ _ _ h => h) (by kernel_rfl) (by assumption) (by rfl) (fun hV => ?_)
        clear hU; have hU := hV; clear hV
        try simp only [Act.put, aput]
        refine AnyU.skip (i := 16) rfl (by kernel_rfl) (by kernel_rfl) (by kernel_rfl) (fun _ _ _ h => h) (by kernel_rfl) (by assumption) (by rfl) (fun hV => ?_)
        clear hU; have hU := hV; clear hV
        try simp only [Act.put, aput]
        refine AnyU.skip (i := 17) rfl (by kernel_rfl) (by kernel_rfl) (by kernel_rfl) (fun _ _ _ h => h) (by kernel_rfl) (by assumption) (by rfl) (fun hV => ?_)
        clear hU; have hU := hV; clear hV
        try simp only [Act.put, aput]
        refine AnyU.skip (i := 18) rfl (by kernel_rfl) (by kernel_rfl) (by kernel_rfl) (fun _ _ _ h => h) (by kernel_rfl) (by assumption) (by rfl) (fun hV => ?_)
        clear hU; have hU := hV; clear hV
        try simp only [Act.put, aput]
        refine AnyU.skip (i := 19) rfl (by kernel_rfl) (by kernel_rfl) (by kernel_rfl) (fun _ _ _ h => h) (by kernel_rfl) (by assumption) (by rfl) (fun hV => ?_)
        clear hU; have hU := hV; clear hV
        try simp only [Act.put, aput]
        refine AnyU.skip (i := 20) rfl (by kernel_rfl) (by kernel_rfl) (by kernel_rfl) (fun _ _ _ h => h) (by kernel_rfl) (by assumption) (by rfl) (fun hV => ?_)
        clear hU; have hU := hV; clear hV
        try simp only [Act.put, aput]
        refine AnyU.skip (i := 21) rfl (by kernel_rfl) (by kernel_rfl) (by kernel_rfl) (fun _ _ _ h => h) (by kernel_rfl) (by assumption) (by rfl) (fun hV => ?_)
        clear hU; have hU := hV; clear hV
        try simp only [Act.put, aput]
        refine AnyU.skip (i := 22) rfl (by kernel_rfl) (by kernel_rfl) (by kernel_rfl) (fun _ _ _ h => h) (by kernel_rfl) (by assumption) (by rfl) (fun hV => ?_)
        clear hU; have hU := hV; clear hV
        try simp only [Act.put, aput]
        refine AnyU.skip (i := 23) rfl (by kernel_rfl) (by kernel_rfl) (by kernel_rfl) (fun _ _ _ h => h) (by kernel_rfl) (by assumption) (by rfl) (fun hV => ?_)
        clear hU; have hU := hV; clear hV
        try simp only [Act.put, aput]
        refine AnyU.skip (i := 24) rfl (by kernel_rfl) (by kernel_rfl) (by kernel_rfl) (fun _ _ _ h => h) (by kernel_rfl) (by assumption) (by rfl) (fun hV => ?_)
        clear hU; have hU := hV; clear hV
        try simp only [Act.put, aput]
        refine AnyU.skip (i := 25) rfl (by kernel_rfl) (by kernel_rfl) (by kernel_rfl) (fun _ _ _ h => h) (by kernel_rfl) (by assumption) (by rfl) (fun hV => ?_)
        clear hU; have hU := hV; clear hV
        try simp only [Act.put, aput]
        refine AnyU.skip (i := 26) rfl (by kernel_rfl) (by kernel_rfl) (by kernel_rfl) (fun _ _ _ h => h) (by kernel_rfl) (by assumption) (by rfl) (fun hV => ?_)
        clear hU; have hU := hV; clear hV
        try simp only [Act.put, aput]
        refine AnyU.skip (i := 27) rfl (by kernel_rfl) (by kernel_rfl) (by kernel_rfl) (fun _ _ _ h => h) (by kernel_rfl) (by assumption) (by rfl) (fun hV => ?_)
        clear hU; have hU := hV; clear hV
        try simp only [Act.put, aput]
        refine AnyU.skip (i := 28) rfl (by kernel_rfl) (by kernel_rfl) (by kernel_rfl) (fun _ _ _ h => h) (by kernel_rfl) (by assumption) (by rfl) (fun hV => ?_)
        clear hU; have hU := hV; clear hV
        try simp only [Act.put, aput]
        refine AnyU.skip (i := 29) rfl (by kernel_rfl) (by kernel_rfl) (by kernel_rfl) (fun _ _ _ h => h) (by kernel_rfl) (by assumption) (by rfl) (fun hV => ?_)
        clear hU; have hU := hV; clear hV
        try simp only [Act.put, aput]
        refine AnyU.skip (i := 30) rfl (by kernel_rfl) (by kernel_rfl) (by kernel_rfl) (fun _ _ _ h => h) (by kernel_rfl) (by assumption) (by rfl) (fun hV => ?_)
        clear hU; have hU := hV; clear hV
        try simp only [Act.put, aput]
        refine AnyU.skip (i := 31) rfl (by kernel_rfl) (by kernel_rfl) (by kernel_rfl) (fun _ _ _ h => h) (by kernel_rfl) (by assumption) (by rfl) (fun hV => ?_)
        clear hU; have hU := hV; clear hV
        try simp only [Act.put, aput]
        refine AnyU.skip (i := 32) rfl (by kernel_rfl) (by kernel_rfl) (by kernel_rfl) (fun _ _ _ h => h) (by kernel_rfl) (by assumption) (by rfl) (fun hV => ?_)
        clear hU; have hU := hV; clear hV
        try simp only [Act.put, aput]
        refine AnyU.skip (i := 33) rfl (by kernel_rfl) (by kernel_rfl) (by kernel_rfl) (fun _ _ _ h => h) (by kernel_rfl) (by assumption) (by rfl) (fun hV => ?_)
        clear hU; have hU := hV; clear hV
        try simp only [Act.put, aput]
        refine AnyU.take (i := 34) (v := ?_) rfl (by kernel_rfl) (by kernel_rfl) (by kernel_rfl) (fun _ _ _ h => h) (by kernel_rfl) (by assumption) (by rfl) ?_ (fun hV => ?_)
        rotate_left 1
        · (intro wq; go_simp; try with_reducible rfl)
        clear hU; have hU := hV; clear hV
        try simp only [Act.put, aput]
        refine AnyU.ready1 (i := 35) (by kernel_rfl) (AnyU.one rfl fun K hK => ?_)
        go_simp
        refine hK.out _ _ (Until.off (by kernel_rfl)) (fun hV => ?_)
        clear hK K
        clear hU; have hU := hV; clear hV
        try simp only [Act.put, aput]
        refine AnyU.done (by kernel_rfl) ?_
        go_wp2_with fail
        exact ⟨⟨0 + 1, by go_num, by omega, A3.out, fun i hi => by obtain rfl : i = 0 := by omega
                                                                   exact hok⟩, by simp [intOf]; omega⟩
    have hk0I : (0 : Int) < (k : Int) := by omega
    have hk0D : decide (0 < k) = true := by simp; omega
    have hl0 : 0 < l.length := by omega
    obtain ⟨ep, hep⟩ : ∃ e, (x.pkg.toList == y.pkg.toList) = e := ⟨_, rfl⟩
    obtain ⟨em, hem⟩ : ∃ e, (x.major == y.major) = e := ⟨_, rfl⟩
    rw [hep, hem] at HDO
    cases ep
    · as_aux_lemma =>
        have hbad := mayP_bad hlt (by rw [HDO.out]; simp)
        rw [HR.out] at hbad
        subst hbad
        refine wp_region_until [(1, fun w' => Blk w' bd #[.string x.pkg, .int .i64 x.major, .string x.mod, .slice ta x.types.length tc, .slice va x.vals.length vc] 33), (35, fun w' => Blk w' bd #[.string x.pkg, .int .i64 x.major, .string x.mod, .slice ta x.types.length tc, .slice va x.vals.length vc] 33), (35, fun w' => w'.cell? ⟨b, o, none⟩ = some (.string y.pkg) ∧ w'.cell? ⟨b, o + 1, none⟩ = some (.int .i64 y.major))] (by kernel_rfl) (Until.cons (fun _ => BD.out.drew) (Until.cons (fun _ => BD.out.drew) (Until.cons (fun _ => ROW0.out _ A2.out.drew) Until.nil))) (fun hU => ?_)
        have A2d := Lib.hid A2.out.drew
        clear A2
        have A2 := A2d
        clear A2d
        have BD2 := Lib.hid BD.out.drew
        refine AnyU.loadc (i := 0) (d := 1) [1] (Si := fun w' => Blk w' bd #[.string x.pkg, .int .i64 x.major, .string x.mod, .slice ta x.types.length tc, .slice va x.vals.length vc] 33) (v := ?_) rfl (by kernel_rfl) (by kernel_rfl) (by kernel_rfl) (fun _ _ _ h => h) (by kernel_rfl) (by assumption) (by kernel_rfl) rfl (by simp) (by rfl) ?_ (fun hV => ?_)
        rotate_left 1
        · (intro wq hq; obtain ⟨u0, u1, u2, u3, u4⟩ := cells5 hq; go_simp; try with_reducible rfl)
        clear hU; have hU := hV; clear hV
        try simp only [Act.put, aput]
        refine AnyU.ready1 (i := 1) (by kernel_rfl) (AnyU.one rfl fun K hK => ?_)
        go_simp
        go_at_call 12
        refine (HC1.out _ (HTY.out.under (A2.out.mono hB)) (HVL.out.under (A2.out.mono hB)) (Nat.le_trans hB A2.out.size)).mono ?_
        rintro e w3 ⟨rfl, hb⟩
        have A3 := Lib.hid (A2.out.trans (hb.mono A2.out.size))
        have BD3 := Lib.hid (BD2.out.under hb BD2.out.lt)
        clear hb
        refine hK.out _ _ (Until.cons (fun h => absurd h (by decide)) (Until.cons (fun _ => BD3.out) (Until.cons (fun _ => ROW0.out _ A3.out) Until.nil))) (fun hV => ?_)
        clear hK K
        clear hU; have hU := hV; clear hV
        try simp only [Act.put, aput]
        refine AnyU.take (i := 2) (v := ?_) rfl (by kernel_rfl) (by kernel_rfl) (by kernel_rfl) (fun _ _ _ h => h) (by kernel_rfl) (by assumption) (by rfl) ?_ (fun hV => ?_)
        rotate_left 1
        · (intro wq; go_simp; try with_reducible rfl)
        clear hU; have hU := hV; clear hV
        try simp only [Act.put, aput]
        refine AnyU.take (i := 3) (v := ?_) rfl (by kernel_rfl) (by kernel_rfl) (by kernel_rfl) (fun _ _ _ h => h) (by kernel_rfl) (by assumption) (by rfl) ?_ (fun hV => ?_)
        rotate_left 1
        · (intro wq; go_simp; try with_reducible rfl)
        clear hU; have hU := hV; clear hV
        try simp only [Act.put, aput]
        refine AnyU.take (i := 4) (v := ?_) rfl (by kernel_rfl) (by kernel_rfl) (by kernel_rfl) (fun _ _ _ h => h) (by kernel_rfl) (by assumption) (by rfl) ?_ (fun hV => ?_)
        rotate_left 1
        · (intro wq; go_simp; try with_reducible rfl)
        clear hU; have hU := hV; clear hV
        try simp only [Act.put, aput]
        refine AnyU.take (i := 5) (v := ?_) rfl (by kernel_rfl) (by kernel_rfl) (by kernel_rfl) (fun _ _ _ h => h) (by kernel_rfl) (by assumption) (by rfl) ?_ (fun hV => ?_)
        rotate_left 1
        · (intro wq; go_simp; try with_reducible rfl)
        clear hU; have hU := hV; clear hV
        try simp only [Act.put, aput]
        refine AnyU.take (i := 6) (v := ?_) rfl (by kernel_rfl) (by kernel_rfl) (by kernel_rfl) (fun _ _ _ h => h) (by kernel_rfl) (by assumption) (by rfl) ?_ (fun hV => ?_)
        rotate_left 1
        · (intro wq; go_simp; try with_reducible rfl)
        clear hU; have hU := hV; clear hV
        try simp only [Act.put, aput]
        refine AnyU.take (i := 7) (v := ?_) rfl (by kernel_rfl) (by kernel_rfl) (by kernel_rfl) (fun _ _ _ h => h) (by kernel_rfl) (by assumption) (by rfl) ?_ (fun hV => ?_)
        rotate_left 1
        · (intro wq; go_simp; try with_reducible rfl)
        clear hU; have hU := hV; clear hV
        try simp only [Act.put, aput]
        refine AnyU.loadc (i := 8) (d := 35) [13, 14, 22, 23, 33, 34, 35] (Si := fun w' => Blk w' bd #[.string x.pkg, .int .i64 x.major, .string x.mod, .slice ta x.types.length tc, .slice va x.vals.length vc] 33) (v := ?_) rfl (by kernel_rfl) (by kernel_rfl) (by kernel_rfl) (fun _ _ _ h => h) (by kernel_rfl) (by assumption) (by kernel_rfl) rfl (by simp) (by rfl) ?_ (fun hV => ?_)
        rotate_left 1
        · (intro wq hq; obtain ⟨u0, u1, u2, u3, u4⟩ := cells5 hq; go_simp; try with_reducible rfl)
        clear hU; have hU := hV; clear hV
        try simp only [Act.put, aput]
        refine AnyU.take (i := 9) (v := ?_) rfl (by kernel_rfl) (by kernel_rfl) (by kernel_rfl) (fun _ _ _ h => h) (by kernel_rfl) (by assumption) (by rfl) ?_ (fun hV => ?_)
        rotate_left 1
        · (intro wq; go_simp; try with_reducible rfl)
        clear hU; have hU := hV; clear hV
        try simp only [Act.put, aput]
        refine AnyU.take (i := 10) (v := ?_) rfl (by kernel_rfl) (by kernel_rfl) (by kernel_rfl) (fun _ _ _ h => h) (by kernel_rfl) (by assumption) (by rfl) ?_ (fun hV => ?_)
        rotate_left 1
        · (intro wq; go_simp; try with_reducible rfl)
        clear hU; have hU := hV; clear hV
        try simp only [Act.put, aput]
        refine AnyU.take (i := 11) (v := ?_) rfl (by kernel_rfl) (by kernel_rfl) (by kernel_rfl) (fun _ _ _ h => h) (by kernel_rfl) (by assumption) (by rfl) ?_ (fun hV => ?_)
        rotate_left 1
        · (intro wq; go_simp; try with_reducible rfl)
        clear hU; have hU := hV; clear hV
        try simp only [Act.put, aput]
        refine AnyU.loadc (i := 12) (d := 35) [13, 14, 22, 23, 33, 34, 35] (Si := fun w' => w'.cell? ⟨b, o, none⟩ = some (.string y.pkg) ∧ w'.cell? ⟨b, o + 1, none⟩ = some (.int .i64 y.major)) (v := ?_) rfl (by kernel_rfl) (by kernel_rfl) (by kernel_rfl) (fun _ _ _ h => h) (by kernel_rfl) (by assumption) (by kernel_rfl) rfl (by simp) (by rfl) ?_ (fun hV => ?_)
        rotate_left 1
        · (intro wq hq; obtain ⟨u0, u1⟩ := hq; go_simp; try with_reducible rfl)
        clear hU; have hU := hV; clear hV
        try simp only [Act.put, aput]
        refine AnyU.take (i := 13) (v := ?_) rfl (by kernel_rfl) (by kernel_rfl) (by kernel_rfl) (fun _ _ _ h => h) (by kernel_rfl) (by assumption) (by rfl) ?_ (fun hV => ?_)
        rotate_left 1
        · (intro wq; go_simp; try with_reducible rfl)
        clear hU; have hU := hV; clear hV
        try simp only [Act.put, aput]
        refine AnyU.take (i := 14) (v := ?_) rfl (by kernel_rfl) (by kernel_rfl) (by kernel_rfl) (fun _ _ _ h => h) (by kernel_rfl) (by assumption) (by rfl) ?_ (fun hV => ?_)
        rotate_left 1
        · (intro wq; go_simp; try with_reducible rfl)
        clear hU; have hU := hV; clear hV
        try simp only [Act.put, aput]
        refine AnyU.skip (i := 15) rfl (by kernel_rfl) (by kernel_rfl) (by kernel_rfl) (fun _ _ _ h => h) (by kernel_rfl) (by assumption) (by rfl) (fun hV => ?_)
        clear hU; have hU := hV; clear hV
        try simp only [Act.put, aput]
        refine AnyU.skip (i := 16) rfl (by kernel_rfl) (by kernel_rfl) (by kernel_rfl) (fun _ _ _ h => h) (by kernel_rfl) (by assumption) (by rfl) (fun hV => ?_)
        clear hU; have hU := hV; clear hV
        try simp only [Act.put, aput]
        refine AnyU.skip (i := 17) rfl (by kernel_rfl) (by kernel_rfl) (by kernel_rfl) (fun _ _ _ h => h) (by kernel_rfl) (by assumption) (by rfl) (fun hV => ?_)
        clear hU; have hU := hV; clear hV
        try simp only [Act.put, aput]
        refine AnyU.skip (i := 18) rfl (by kernel_rfl) (by kernel_rfl) (by kernel_rfl) (fun _ _ _ h => h) (by kernel_rfl) (by assumption) (by rfl) (fun hV => ?_)
        clear hU; have hU := hV; clear hV
        try simp only [Act.put, aput]
        refine AnyU.skip (i := 19) rfl (by kernel_rfl) (by kernel_rfl) (by kernel_rfl) (fun _ _ _ h => h) (by kernel_rfl) (by assumption) (by rfl) (fun hV => ?_)
        clear hU; have hU := hV; clear hV
        try simp only [Act.put, aput]
        refine AnyU.skip (i := 20) rfl (by kernel_rfl) (by kernel_rfl) (by kernel_rfl) (fun _ _ _ h => h) (by kernel_rfl) (by assumption) (by rfl) (fun hV => ?_)
        clear hU; have hU := hV; clear hV
        try simp only [Act.put, aput]
        refine AnyU.skip (i := 21) rfl (by kernel_rfl) (by kernel_rfl) (by kernel_rfl) (fun _ _ _ h => h) (by kernel_rfl) (by assumption) (by rfl) (fun hV => ?_)
        clear hU; have hU := hV; clear hV
        try simp only [Act.put, aput]
        refine AnyU.take (i := 22) (v := ?_) rfl (by kernel_rfl) (by kernel_rfl) (by kernel_rfl) (fun _ _ _ h => h) (by kernel_rfl) (by assumption) (by rfl) ?_ (fun hV => ?_)
        rotate_left 1
        · (intro wq; go_simp; try with_reducible rfl)
        clear hU; have hU := hV; clear hV
        try simp only [Act.put, aput]
        refine AnyU.take (i := 23) (v := ?_) rfl (by kernel_rfl) (by kernel_rfl) (by kernel_rfl) (fun _ _ _ h => h) (by kernel_rfl) (by assumption) (by rfl) ?_ (fun hV => ?_)
        rotate_left 1
        · (intro wq; go_simp; try with_reducible rfl)
        clear hU; have hU := hV; clear hV
        try simp only [Act.put, aput]
        refine AnyU.skip (i := 24) rfl (by kernel_rfl) (by kernel_rfl) (by kernel_rfl) (fun _ _ _ h => h) (by kernel_rfl) (by assumption) (by rfl) (fun hV => ?_)
        clear hU; have hU := hV; clear hV
        try simp only [Act.put, aput]
        refine AnyU.skip (i := 25) rfl (by kernel_rfl) (by kernel_rfl) (by kernel_rfl) (fun _ _ _ h => h) (by kernel_rfl) (by assumption) (by rfl) (fun hV => ?_)
        clear hU; have hU := hV; clear hV
        try simp only [Act.put, aput]
        refine AnyU.skip (i := 26) rfl (by kernel_rfl) (by kernel_rfl) (by kernel_rfl) (fun _ _ _ h => h) (by kernel_rfl) (by assumption) (by rfl) (fun hV => ?_)
        clear hU; have hU := hV; clear hV
        try simp only [Act.put, aput]
        refine AnyU.skip (i := 27) rfl (by kernel_rfl) (by kernel_rfl) (by kernel_rfl) (fun _ _ _ h => h) (by kernel_rfl) (by assumption) (by rfl) (fun hV => ?_)
        clear hU; have hU := hV; clear hV
        try simp only [Act.put, aput]
        refine AnyU.skip (i := 28) rfl (by kernel_rfl) (by kernel_rfl) (by kernel_rfl) (fun _ _ _ h => h) (by kernel_rfl) (by assumption) (by rfl) (fun hV => ?_)
        clear hU; have hU := hV; clear hV
        try simp only [Act.put, aput]
        refine AnyU.skip (i := 29) rfl (by kernel_rfl) (by kernel_rfl) (by kernel_rfl) (fun _ _ _ h => h) (by kernel_rfl) (by assumption) (by rfl) (fun hV => ?_)
        clear hU; have hU := hV; clear hV
        try simp only [Act.put, aput]
        refine AnyU.skip (i := 30) rfl (by kernel_rfl) (by kernel_rfl) (by kernel_rfl) (fun _ _ _ h => h) (by kernel_rfl) (by assumption) (by rfl) (fun hV => ?_)
        clear hU; have hU := hV; clear hV
        try simp only [Act.put, aput]
        refine AnyU.skip (i := 31) rfl (by kernel_rfl) (by kernel_rfl) (by kernel_rfl) (fun _ _ _ h => h) (by kernel_rfl) (by assumption) (by rfl) (fun hV => ?_)
        clear hU; have hU := hV; clear hV
        try simp only [Act.put, aput]
        refine AnyU.skip (i := 32) rfl (by kernel_rfl) (by kernel_rfl) (by kernel_rfl) (fun _ _ _ h => h) (by kernel_rfl) (by assumption) (by rfl) (fun hV => ?_)
        clear hU; have hU := hV; clear hV
        try simp only [Act.put, aput]
        refine AnyU.take (i := 33) (v := ?_) rfl (by kernel_rfl) (by kernel_rfl) (by kernel_rfl) (fun _ _ _ h => h) (by kernel_rfl) (by assumption) (by rfl) ?_ (fun hV => ?_)
        rotate_left 1
        · (intro wq; go_simp; try with_reducible rfl)
        clear hU; have hU := hV; clear hV
        try simp only [Act.put, aput]
        refine AnyU.take (i := 34) (v := ?_) rfl (by kernel_rfl) (by kernel_rfl) (by kernel_rfl) (fun _ _ _ h => h) (by kernel_rfl) (by assumption) (by rfl) ?_ (fun hV => ?_)
        rotate_left 1
        · (intro wq; go_simp; try with_reducible rfl)
        clear hU; have hU := hV; clear hV
        try simp only [Act.put, aput]
        refine AnyU.ready1 (i := 35) (by kernel_rfl) (AnyU.one rfl fun K hK => ?_)
        go_simp
        refine hK.out _ _ (Until.off (by kernel_rfl)) (fun hV => ?_)
        clear hK K
        clear hU; have hU := hV; clear hV
        try simp only [Act.put, aput]
        refine AnyU.done (by kernel_rfl) ?_
        go_wp2_with fail
        go_ret
        exact ⟨rfl, A3.out⟩
    cases em
    · as_aux_lemma =>
        have hbad := mayP_bad hlt (by rw [HDO.out]; simp)
        rw [HR.out] at hbad
        subst hbad
        have hmne : (x.major != y.major) = true := by rw [bne, hem]; rfl
        refine wp_region_until [(1, fun w' => Blk w' bd #[.string x.pkg, .int .i64 x.major, .string x.mod, .slice ta x.types.length tc, .slice va x.vals.length vc] 33), (35, fun w' => Blk w' bd #[.string x.pkg, .int .i64 x.major, .string x.mod, .slice ta x.types.length tc, .slice va x.vals.length vc] 33), (35, fun w' => w'.cell? ⟨b, o, none⟩ = some (.string y.pkg) ∧ w'.cell? ⟨b, o + 1, none⟩ = some (.int .i64 y.major))] (by kernel_rfl) (Until.cons (fun _ => BD.out.drew) (Until.cons (fun _ => BD.out.drew) (Until.cons (fun _ => ROW0.out _ A2.out.drew) Until.nil))) (fun hU => ?_)
        have A2d := Lib.hid A2.out.drew
        clear A2
        have A2 := A2d
        clear A2d
        have BD2 := Lib.hid BD.out.drew
        refine AnyU.loadc (i := 0) (d := 1) [1] (Si := fun w' => Blk w' bd #[.string x.pkg, .int .i64 x.major, .string x.mod, .slice ta x.types.length tc, .slice va x.vals.length vc] 33) (v := ?_) rfl (by kernel_rfl) (by kernel_rfl) (by kernel_rfl) (fun _ _ _ h => h) (by kernel_rfl) (by assumption) (by kernel_rfl) rfl (by simp) (by rfl) ?_ (fun hV => ?_)
        rotate_left 1
        · (intro wq hq; obtain ⟨u0, u1, u2, u3, u4⟩ := cells5 hq; go_simp; try with_reducible rfl)
        clear hU; have hU := hV; clear hV
        try simp only [Act.put, aput]
        refine AnyU.ready1 (i := 1) (by kernel_rfl) (AnyU.one rfl fun K hK => ?_)
        go_simp
        go_at_call 12
        refine (HC1.out _ (HTY.out.under (A2.out.mono hB)) (HVL.out.under (A2.out.mono hB)) (Nat.le_trans hB A2.out.size)).mono ?_
        rintro e w3 ⟨rfl, hb⟩
        have A3 := Lib.hid (A2.out.trans (hb.mono A2.out.size))
        have BD3 := Lib.hid (BD2.out.under hb BD2.out.lt)
        clear hb
        refine hK.out _ _ (Until.cons (fun h => absurd h (by decide)) (Until.cons (fun _ => BD3.out) (Until.cons (fun _ => ROW0.out _ A3.out) Until.nil))) (fun hV => ?_)
        clear hK K
        clear hU; have hU := hV; clear hV
        try simp only [Act.put, aput]
        refine AnyU.take (i := 2) (v := ?_) rfl (by kernel_rfl) (by kernel_rfl) (by kernel_rfl) (fun _ _ _ h => h) (by kernel_rfl) (by assumption) (by rfl) ?_ (fun hV => ?_)
        rotate_left 1
        · (intro wq; go_simp; try with_reducible rfl)
        clear hU; have hU := hV; clear hV
        try simp only [Act.put, aput]
        refine AnyU.take (i := 3) (v := ?_) rfl (by kernel_rfl) (by kernel_rfl) (by kernel_rfl) (fun _ _ _ h => h) (by kernel_rfl) (by assumption) (by rfl) ?_ (fun hV => ?_)
        rotate_left 1
        · (intro wq; go_simp; try with_reducible rfl)
        clear hU; have hU := hV; clear hV
        try simp only [Act.put, aput]
        refine AnyU.take (i := 4) (v := ?_) rfl (by kernel_rfl) (by kernel_rfl) (by kernel_rfl) (fun _ _ _ h => h) (by kernel_rfl) (by assumption) (by rfl) ?_ (fun hV => ?_)
        rotate_left 1
        · (intro wq; go_simp; try with_reducible rfl)
        clear hU; have hU := hV; clear hV
        try simp only [Act.put, aput]
        refine AnyU.take (i := 5) (v := ?_) rfl (by kernel_rfl) (by kernel_rfl) (by kernel_rfl) (fun _ _ _ h => h) (by kernel_rfl) (by assumption) (by rfl) ?_ (fun hV => ?_)
        rotate_left 1
        · (intro wq; go_simp; try with_reducible rfl)
        clear hU; have hU := hV; clear hV
        try simp only [Act.put, aput]
        refine AnyU.take (i := 6) (v := ?_) rfl (by kernel_rfl) (by kernel_rfl) (by kernel_rfl) (fun _ _ _ h => h) (by kernel_rfl) (by assumption) (by rfl) ?_ (fun hV => ?_)
        rotate_left 1
        · (intro wq; go_simp; try with_reducible rfl)
        clear hU; have hU := hV; clear hV
        try simp only [Act.put, aput]
        refine AnyU.take (i := 7) (v := ?_) rfl (by kernel_rfl) (by kernel_rfl) (by kernel_rfl) (fun _ _ _ h => h) (by kernel_rfl) (by assumption) (by rfl) ?_ (fun hV => ?_)
        rotate_left 1
        · (intro wq; go_simp; try with_reducible rfl)
        clear hU; have hU := hV; clear hV
        try simp only [Act.put, aput]
        refine AnyU.loadc (i := 8) (d := 35) [13, 14, 22, 23, 33, 34, 35] (Si := fun w' => Blk w' bd #[.string x.pkg, .int .i64 x.major, .string x.mod, .slice ta x.types.length tc, .slice va x.vals.length vc] 33) (v := ?_) rfl (by kernel_rfl) (by kernel_rfl) (by kernel_rfl) (fun _ _ _ h => h) (by kernel_rfl) (by assumption) (by kernel_rfl) rfl (by simp) (by rfl) ?_ (fun hV => ?_)
        rotate_left 1
        · (intro wq hq; obtain ⟨u0, u1, u2, u3, u4⟩ := cells5 hq; go_simp; try with_reducible rfl)
        clear hU; have hU := hV; clear hV
        try simp only [Act.put, aput]
        refine AnyU.take (i := 9) (v := ?_) rfl (by kernel_rfl) (by kernel_rfl) (by kernel_rfl) (fun _ _ _ h => h) (by kernel_rfl) (by assumption) (by rfl) ?_ (fun hV => ?_)
        rotate_left 1
        · (intro wq; go_simp; try with_reducible rfl)
        clear hU; have hU := hV; clear hV
        try simp only [Act.put, aput]
        refine AnyU.take (i := 10) (v := ?_) rfl (by kernel_rfl) (by kernel_rfl) (by kernel_rfl) (fun _ _ _ h => h) (by kernel_rfl) (by assumption) (by rfl) ?_ (fun hV => ?_)
        rotate_left 1
        · (intro wq; go_simp; try with_reducible rfl)
        clear hU; have hU := hV; clear hV
        try simp only [Act.put, aput]
        refine AnyU.take (i := 11) (v := ?_) rfl (by kernel_rfl) (by kernel_rfl) (by kernel_rfl) (fun _ _ _ h => h) (by kernel_rfl) (by assumption) (by rfl) ?_ (fun hV => ?_)
        rotate_left 1
        · (intro wq; go_simp; try with_reducible rfl)
        clear hU; have hU := hV; clear hV
        try simp only [Act.put, aput]
        refine AnyU.loadc (i := 12) (d := 35) [13, 14, 22, 23, 33, 34, 35] (Si := fun w' => w'.cell? ⟨b, o, none⟩ = some (.string y.pkg) ∧ w'.cell? ⟨b, o + 1, none⟩ = some (.int .i64 y.major)) (v := ?_) rfl (by kernel_rfl) (by kernel_rfl) (by kernel_rfl) (fun _ _ _ h => h) (by kernel_rfl) (by assumption) (by kernel_rfl) rfl (by simp) (by rfl) ?_ (fun hV => ?_)
        rotate_left 1
        · (intro wq hq; obtain ⟨u0, u1⟩ := hq; go_simp; try with_reducible rfl)
        clear hU; have hU := hV; clear hV
        try simp only [Act.put, aput]
        refine AnyU.take (i := 13) (v := ?_) rfl (by kernel_rfl) (by kernel_rfl) (by kernel_rfl) (fun _ _ _ h => h) (by kernel_rfl) (by assumption) (by rfl) ?_ (fun hV => ?_)
        rotate_left 1
        · (intro wq; go_simp; try with_reducible rfl)
        clear hU; have hU := hV; clear hV
        try simp only [Act.put, aput]
        refine AnyU.take (i := 14) (v := ?_) rfl (by kernel_rfl) (by kernel_rfl) (by kernel_rfl) (fun _ _ _ h => h) (by kernel_rfl) (by assumption) (by rfl) ?_ (fun hV => ?_)
        rotate_left 1
        · (intro wq; go_simp; try with_reducible rfl)
        clear hU; have hU := hV; clear hV
        try simp only [Act.put, aput]
        refine AnyU.take (i := 15) (v := ?_) rfl (by kernel_rfl) (by kernel_rfl) (by kernel_rfl) (fun _ _ _ h => h) (by kernel_rfl) (by assumption) (by rfl) ?_ (fun hV => ?_)
        rotate_left 1
        · (intro wq; go_simp; try with_reducible rfl)
        clear hU; have hU := hV; clear hV
        try simp only [Act.put, aput]
        refine AnyU.loadc (i := 16) (d := 35) [21, 22, 23, 33, 34, 35] (Si := fun w' => Blk w' bd #[.string x.pkg, .int .i64 x.major, .string x.mod, .slice ta x.types.length tc, .slice va x.vals.length vc] 33) (v := ?_) rfl (by kernel_rfl) (by kernel_rfl) (by kernel_rfl) (fun _ _ _ h => h) (by kernel_rfl) (by assumption) (by kernel_rfl) rfl (by simp) (by rfl) ?_ (fun hV => ?_)
        rotate_left 1
        · (intro wq hq; obtain ⟨u0, u1, u2, u3, u4⟩ := cells5 hq; go_simp; try with_reducible rfl)
        clear hU; have hU := hV; clear hV
        try simp only [Act.put, aput]
        refine AnyU.take (i := 17) (v := ?_) rfl (by kernel_rfl) (by kernel_rfl) (by kernel_rfl) (fun _ _ _ h => h) (by kernel_rfl) (by assumption) (by rfl) ?_ (fun hV => ?_)
        rotate_left 1
        · (intro wq; go_simp; try with_reducible rfl)
        clear hU; have hU := hV; clear hV
        try simp only [Act.put, aput]
        refine AnyU.take (i := 18) (v := ?_) rfl (by kernel_rfl) (by kernel_rfl) (by kernel_rfl) (fun _ _ _ h => h) (by kernel_rfl) (by assumption) (by rfl) ?_ (fun hV => ?_)
        rotate_left 1
        · (intro wq; go_simp; try with_reducible rfl)
        clear hU; have hU := hV; clear hV
        try simp only [Act.put, aput]
        refine AnyU.take (i := 19) (v := ?_) rfl (by kernel_rfl) (by kernel_rfl) (by kernel_rfl) (fun _ _ _ h => h) (by kernel_rfl) (by assumption) (by rfl) ?_ (fun hV => ?_)
        rotate_left 1
        · (intro wq; go_simp; try with_reducible rfl)
        clear hU; have hU := hV; clear hV
        try simp only [Act.put, aput]
        refine AnyU.loadc (i := 20) (d := 35) [21, 22, 23, 33, 34, 35] (Si := fun w' => w'.cell? ⟨b, o, none⟩ = some (.string y.pkg) ∧ w'.cell? ⟨b, o + 1, none⟩ = some (.int .i64 y.major)) (v := ?_) rfl (by kernel_rfl) (by kernel_rfl) (by kernel_rfl) (fun _ _ _ h => h) (by kernel_rfl) (by assumption) (by kernel_rfl) rfl (by simp) (by rfl) ?_ (fun hV => ?_)
        rotate_left 1
        · (intro wq hq; obtain ⟨u0, u1⟩ := hq; go_simp; try with_reducible rfl)
        clear hU; have hU := hV; clear hV
        try simp only [Act.put, aput]
        refine AnyU.take (i := 21) (v := ?_) rfl (by kernel_rfl) (by kernel_rfl) (by kernel_rfl) (fun _ _ _ h => h) (by kernel_rfl) (by assumption) (by rfl) ?_ (fun hV => ?_)
        rotate_left 1
        · (intro wq; go_simp; try with_reducible rfl)
        clear hU; have hU := hV; clear hV
        try simp only [Act.put, aput]
        refine AnyU.take (i := 22) (v := ?_) rfl (by kernel_rfl) (by kernel_rfl) (by kernel_rfl) (fun _ _ _ h => h) (by kernel_rfl) (by assumption) (by rfl) ?_ (fun hV => ?_)
        rotate_left 1
        · (intro wq; go_simp; try with_reducible rfl)
        clear hU; have hU := hV; clear hV
        try simp only [Act.put, aput]
        refine AnyU.take (i := 23) (v := ?_) rfl (by kernel_rfl) (by kernel_rfl) (by kernel_rfl) (fun _ _ _ h => h) (by kernel_rfl) (by assumption) (by rfl) ?_ (fun hV => ?_)
        rotate_left 1
        · (intro wq; go_simp; try with_reducible rfl)
        clear hU; have hU := hV; clear hV
        try simp only [Act.put, aput]
        refine AnyU.skip (i := 24) rfl (by kernel_rfl) (by kernel_rfl) (by kernel_rfl) (fun _ _ _ h => h) (by kernel_rfl) (by assumption) (by rfl) (fun hV => ?_)
        clear hU; have hU := hV; clear hV
        try simp only [Act.put, aput]
        refine AnyU.skip (i := 25) rfl (by kernel_rfl) (by kernel_rfl) (by kernel_rfl) (fun _ _ _ h => h) (by kernel_rfl) (by assumption) (by rfl) (fun hV => ?_)
        clear hU; have hU := hV; clear hV
        try simp only [Act.put, aput]
        refine AnyU.skip (i := 26) rfl (by kernel_rfl) (by kernel_rfl) (by kernel_rfl) (fun _ _ _ h => h) (by kernel_rfl) (by assumption) (by rfl) (fun hV => ?_)
        clear hU; have hU := hV; clear hV
        try simp only [Act.put, aput]
        refine AnyU.skip (i := 27) rfl (by kernel_rfl) (by kernel_rfl) (by kernel_rfl) (fun _ _ _ h => h) (by kernel_rfl) (by assumption) (by rfl) (fun hV => ?_)
        clear hU; have hU := hV; clear hV
        try simp only [Act.put, aput]
        refine AnyU.skip (i := 28) rfl (by kernel_rfl) (by kernel_rfl) (by kernel_rfl) (fun _ _ _ h => h) (by kernel_rfl) (by assumption) (by rfl) (fun hV => ?_)
        clear hU; have hU := hV; clear hV
        try simp only [Act.put, aput]
        refine AnyU.skip (i := 29) rfl (by kernel_rfl) (by kernel_rfl) (by kernel_rfl) (fun _ _ _ h => h) (by kernel_rfl) (by assumption) (by rfl) (fun hV => ?_)
        clear hU; have hU := hV; clear hV
        try simp only [Act.put, aput]
        refine AnyU.skip (i := 30) rfl (by kernel_rfl) (by kernel_rfl) (by kernel_rfl) (fun _ _ _ h => h) (by kernel_rfl) (by assumption) (by rfl) (fun hV => ?_)
        clear hU; have hU := hV; clear hV
        try simp only [Act.put, aput]
        refine AnyU.skip (i := 31) rfl (by kernel_rfl) (by kernel_rfl) (by kernel_rfl) (fun _ _ _ h => h) (by kernel_rfl) (by assumption) (by rfl) (fun hV => ?_)
        clear hU; have hU := hV; clear hV
        try simp only [Act.put, aput]
        refine AnyU.skip (i := 32) rfl (by kernel_rfl) (by kernel_rfl) (by kernel_rfl) (fun _ _ _ h => h) (by kernel_rfl) (by assumption) (by rfl) (fun hV => ?_)
        clear hU; have hU := hV; clear hV
        try simp only [Act.put, aput]
        refine AnyU.take (i := 33) (v := ?_) rfl (by kernel_rfl) (by kernel_rfl) (by kernel_rfl) (fun _ _ _ h => h) (by kernel_rfl) (by assumption) (by rfl) ?_ (fun hV => ?_)
        rotate_left 1
        · (intro wq; go_simp; try with_reducible rfl)
        clear hU; have hU := hV; clear hV
        try simp only [Act.put, aput]
        refine AnyU.take (i := 34) (v := ?_) rfl (by kernel_rfl) (by kernel_rfl) (by kernel_rfl) (fun _ _ _ h => h) (by kernel_rfl) (by assumption) (by rfl) ?_ (fun hV => ?_)
        rotate_left 1
        · (intro wq; go_simp; try with_reducible rfl)
        clear hU; have hU := hV; clear hV
        try simp only [Act.put, aput]
        refine AnyU.ready1 (i := 35) (by kernel_rfl) (AnyU.one rfl fun K hK => ?_)
        go_simp
        refine hK.out _ _ (Until.off (by kernel_rfl)) (fun hV => ?_)
        clear hK K
        clear hU; have hU := hV; clear hV
        try simp only [Act.put, aput]
        refine AnyU.done (by kernel_rfl) ?_
        go_wp2_with fail
        go_ret
        exact ⟨rfl, A3.out⟩
    have hmeq : (x.major != y.major) = false := by rw [bne, hem]; rfl
    have hkB : ((k - 1 : Nat) : Int) < (l.length : Int) := by omega
    have hkB2 : k - 1 < l.length := by omega
    have hkw : IntKind.i64.wrap ((k - 1 : Nat) : Int) = ((k - 1 : Nat) : Int) := by rw [IntKind.wrap_i64]; omega
    have hkm : (k : Int) - 1 = ((k - 1 : Nat) : Int) := by omega
    obtain ⟨q, hq⟩ : ∃ q, (l[k - 1]'(by omega)).mod = q := ⟨_, rfl⟩
    obtain ⟨-, b', o', -, -, -, -, e', -, -, -, -, -, -, -, hcq, -⟩ := H.out.elem hkB2 rfl
    injection e' with e'
    injection e' with e1 e2
    subst e1 e2
    rw [hq] at hcq
    have HCQ := Lib.hid hcq
    rw [hq] at HDO
    obtain ⟨lt, hlt2⟩ : ∃ z, ltB q x.mod = z := ⟨_, rfl⟩
    rw [hlt2] at HDO
    have HLT := Lib.hid (show Op.bytesLess q.toList x.mod.toList = lt from hlt2)
    clear hcq hlt2 hq
    cases lt
    · as_aux_lemma =>
        have hbad := mayP_bad hlt (by rw [HDO.out]; simp [h0])
        rw [HR.out] at hbad
        subst hbad
        have hl3 := HLT.out
        refine wp_region_until [(1, fun w' => Blk w' bd #[.string x.pkg, .int .i64 x.major, .string x.mod, .slice ta x.types.length tc, .slice va x.vals.length vc] 33), (35, fun w' => Blk w' bd #[.string x.pkg, .int .i64 x.major, .string x.mod, .slice ta x.types.length tc, .slice va x.vals.length vc] 33), (35, fun w' => w'.cell? ⟨b, o, none⟩ = some (.string y.pkg) ∧ w'.cell? ⟨b, o + 1, none⟩ = some (.int .i64 y.major)), (35, fun w' => w'.cell? ⟨b, o + (k - 1) * 5 + 2, none⟩ = some (.string q))] (by kernel_rfl) (Until.cons (fun _ => BD.out.drew) (Until.cons (fun _ => BD.out.drew) (Until.cons (fun _ => ROW0.out _ A2.out.drew) (Until.cons (fun _ => ((A2.out.cell (p := ⟨b, _, none⟩) hbW).trans HCQ.out)) Until.nil)))) (fun hU => ?_)
        have A2d := Lib.hid A2.out.drew
        clear A2
        have A2 := A2d
        clear A2d
        have BD2 := Lib.hid BD.out.drew
        refine AnyU.loadc (i := 0) (d := 1) [1] (Si := fun w' => Blk w' bd #[.string x.pkg, .int .i64 x.major, .string x.mod, .slice ta x.types.length tc, .slice va x.vals.length vc] 33) (v := ?_) rfl (by kernel_rfl) (by kernel_rfl) (by kernel_rfl) (fun _ _ _ h => h) (by kernel_rfl) (by assumption) (by kernel_rfl) rfl (by simp) (by rfl) ?_ (fun hV => ?_)
        rotate_left 1
        · (intro wq hq; obtain ⟨u0, u1, u2, u3, u4⟩ := cells5 hq; go_simp; try with_reducible rfl)
        clear hU; have hU := hV; clear hV
        try simp only [Act.put, aput]
        refine AnyU.ready1 (i := 1) (by kernel_rfl) (AnyU.one rfl fun K hK => ?_)
        go_simp
        go_at_call 12
        refine (HC1.out _ (HTY.out.under (A2.out.mono hB)) (HVL.out.under (A2.out.mono hB)) (Nat.le_trans hB A2.out.size)).mono ?_
        rintro e w3 ⟨rfl, hb⟩
        have A3 := Lib.hid (A2.out.trans (hb.mono A2.out.size))
        have BD3 := Lib.hid (BD2.out.under hb BD2.out.lt)
        clear hb
        refine hK.out _ _ (Until.cons (fun h => absurd h (by decide)) (Until.cons (fun _ => BD3.out) (Until.cons (fun _ => ROW0.out _ A3.out) (Until.cons (fun _ => (A3.out.cell (p := ⟨b, _, none⟩) hbW).trans HCQ.out) Until.nil)))) (fun hV => ?_)
        clear hK K
        clear hU; have hU := hV; clear hV
        try simp only [Act.put, aput]
        refine AnyU.take (i := 2) (v := ?_) rfl (by kernel_rfl) (by kernel_rfl) (by kernel_rfl) (fun _ _ _ h => h) (by kernel_rfl) (by assumption) (by rfl) ?_ (fun hV => ?_)
        rotate_left 1
        · (intro wq; go_simp; try with_reducible rfl)
        clear hU; have hU := hV; clear hV
        try simp only [Act.put, aput]
        refine AnyU.take (i := 3) (v := ?_) rfl (by kernel_rfl) (by kernel_rfl) (by kernel_rfl) (fun _ _ _ h => h) (by kernel_rfl) (by assumption) (by rfl) ?_ (fun hV => ?_)
        rotate_left 1
        · (intro wq; go_simp; try with_reducible rfl)
        clear hU; have hU := hV; clear hV
        try simp only [Act.put, aput]
        refine AnyU.take (i := 4) (v := ?_) rfl (by kernel_rfl) (by kernel_rfl) (by kernel_rfl) (fun _ _ _ h => h) (by kernel_rfl) (by assumption) (by rfl) ?_ (fun hV => ?_)
        rotate_left 1
        · (intro wq; go_simp; try with_reducible rfl)
        clear hU; have hU := hV; clear hV
        try simp only [Act.put, aput]
        refine AnyU.take (i := 5) (v := ?_) rfl (by kernel_rfl) (by kernel_rfl) (by kernel_rfl) (fun _ _ _ h => h) (by kernel_rfl) (by assumption) (by rfl) ?_ (fun hV => ?_)
        rotate_left 1
        · (intro wq; go_simp; try with_reducible rfl)
        clear hU; have hU := hV; clear hV
        try simp only [Act.put, aput]
        refine AnyU.take (i := 6) (v := ?_) rfl (by kernel_rfl) (by kernel_rfl) (by kernel_rfl) (fun _ _ _ h => h) (by kernel_rfl) (by assumption) (by rfl) ?_ (fun hV => ?_)
        rotate_left 1
        · (intro wq; go_simp; try with_reducible rfl)
        clear hU; have hU := hV; clear hV
        try simp only [Act.put, aput]
        refine AnyU.take (i := 7) (v := ?_) rfl (by kernel_rfl) (by kernel_rfl) (by kernel_rfl) (fun _ _ _ h => h) (by kernel_rfl) (by assumption) (by rfl) ?_ (fun hV => ?_)
        rotate_left 1
        · (intro wq; go_simp; try with_reducible rfl)
        clear hU; have hU := hV; clear hV
        try simp only [Act.put, aput]
        refine AnyU.loadc (i := 8) (d := 35) [13, 14, 22, 23, 33, 34, 35] (Si := fun w' => Blk w' bd #[.string x.pkg, .int .i64 x.major, .string x.mod, .slice ta x.types.length tc, .slice va x.vals.length vc] 33) (v := ?_) rfl (by kernel_rfl) (by kernel_rfl) (by kernel_rfl) (fun _ _ _ h => h) (by kernel_rfl) (by assumption) (by kernel_rfl) rfl (by simp) (by rfl) ?_ (fun hV => ?_)
        rotate_left 1
        · (intro wq hq; obtain ⟨u0, u1, u2, u3, u4⟩ := cells5 hq; go_simp; try with_reducible rfl)
        clear hU; have hU := hV; clear hV
        try simp only [Act.put, aput]
        refine AnyU.take (i := 9) (v := ?_) rfl (by kernel_rfl) (by kernel_rfl) (by kernel_rfl) (fun _ _ _ h => h) (by kernel_rfl) (by assumption) (by rfl) ?_ (fun hV => ?_)
        rotate_left 1
        · (intro wq; go_simp; try with_reducible rfl)
        clear hU; have hU := hV; clear hV
        try simp only [Act.put, aput]
        refine AnyU.take (i := 10) (v := ?_) rfl (by kernel_rfl) (by kernel_rfl) (by kernel_rfl) (fun _ _ _ h => h) (by kernel_rfl) (by assumption) (by rfl) ?_ (fun hV => ?_)
        rotate_left 1
        · (intro wq; go_simp; try with_reducible rfl)
        clear hU; have hU := hV; clear hV
        try simp only [Act.put, aput]
        refine AnyU.take (i := 11) (v := ?_) rfl (by kernel_rfl) (by kernel_rfl) (by kernel_rfl) (fun _ _ _ h => h) (by kernel_rfl) (by assumption) (by rfl) ?_ (fun hV => ?_)
        rotate_left 1
        · (intro wq; go_simp; try with_reducible rfl)
        clear hU; have hU := hV; clear hV
        try simp only [Act.put, aput]
        refine AnyU.loadc (i := 12) (d := 35) [13, 14, 22, 23, 33, 34, 35] (Si := fun w' => w'.cell? ⟨b, o, none⟩ = some (.string y.pkg) ∧ w'.cell? ⟨b, o + 1, none⟩ = some (.int .i64 y.major)) (v := ?_) rfl (by kernel_rfl) (by kernel_rfl) (by kernel_rfl) (fun _ _ _ h => h) (by kernel_rfl) (by assumption) (by kernel_rfl) rfl (by simp) (by rfl) ?_ (fun hV => ?_)
        rotate_left 1
        · (intro wq hq; obtain ⟨u0, u1⟩ := hq; go_simp; try with_reducible rfl)
        clear hU; have hU := hV; clear hV
        try simp only [Act.put, aput]
        refine AnyU.take (i := 13) (v := ?_) rfl (by kernel_rfl) (by kernel_rfl) (by kernel_rfl) (fun _ _ _ h => h) (by kernel_rfl) (by assumption) (by rfl) ?_ (fun hV => ?_)
        rotate_left 1
        · (intro wq; go_simp; try with_reducible rfl)
        clear hU; have hU := hV; clear hV
        try simp only [Act.put, aput]
        refine AnyU.take (i := 14) (v := ?_) rfl (by kernel_rfl) (by kernel_rfl) (by kernel_rfl) (fun _ _ _ h => h) (by kernel_rfl) (by assumption) (by rfl) ?_ (fun hV => ?_)
        rotate_left 1
        · (intro wq; go_simp; try with_reducible rfl)
        clear hU; have hU := hV; clear hV
        try simp only [Act.put, aput]
        refine AnyU.take (i := 15) (v := ?_) rfl (by kernel_rfl) (by kernel_rfl) (by kernel_rfl) (fun _ _ _ h => h) (by kernel_rfl) (by assumption) (by rfl) ?_ (fun hV => ?_)
        rotate_left 1
        · (intro wq; go_simp; try with_reducible rfl)
        clear hU; have hU := hV; clear hV
        try simp only [Act.put, aput]
        refine AnyU.loadc (i := 16) (d := 35) [21, 22, 23, 33, 34, 35] (Si := fun w' => Blk w' bd #[.string x.pkg, .int .i64 x.major, .string x.mod, .slice ta x.types.length tc, .slice va x.vals.length vc] 33) (v := ?_) rfl (by kernel_rfl) (by kernel_rfl) (by kernel_rfl) (fun _ _ _ h => h) (by kernel_rfl) (by assumption) (by kernel_rfl) rfl (by simp) (by rfl) ?_ (fun hV => ?_)
        rotate_left 1
        · (intro wq hq; obtain ⟨u0, u1, u2, u3, u4⟩ := cells5 hq; go_simp; try with_reducible rfl)
        clear hU; have hU := hV; clear hV
        try simp only [Act.put, aput]
        refine AnyU.take (i := 17) (v := ?_) rfl (by kernel_rfl) (by kernel_rfl) (by kernel_rfl) (fun _ _ _ h => h) (by kernel_rfl) (by assumption) (by rfl) ?_ (fun hV => ?_)
        rotate_left 1
        · (intro wq; go_simp; try with_reducible rfl)
        clear hU; have hU := hV; clear hV
        try simp only [Act.put, aput]
        refine AnyU.take (i := 18) (v := ?_) rfl (by kernel_rfl) (by kernel_rfl) (by kernel_rfl) (fun _ _ _ h => h) (by kernel_rfl) (by assumption) (by rfl) ?_ (fun hV => ?_)
        rotate_left 1
        · (intro wq; go_simp; try with_reducible rfl)
        clear hU; have hU := hV; clear hV
        try simp only [Act.put, aput]
        refine AnyU.take (i := 19) (v := ?_) rfl (by kernel_rfl) (by kernel_rfl) (by kernel_rfl) (fun _ _ _ h => h) (by kernel_rfl) (by assumption) (by rfl) ?_ (fun hV => ?_)
        rotate_left 1
        · (intro wq; go_simp; try with_reducible rfl)
        clear hU; have hU := hV; clear hV
        try simp only [Act.put, aput]
        refine AnyU.loadc (i := 20) (d := 35) [21, 22, 23, 33, 34, 35] (Si := fun w' => w'.cell? ⟨b, o, none⟩ = some (.string y.pkg) ∧ w'.cell? ⟨b, o + 1, none⟩ = some (.int .i64 y.major)) (v := ?_) rfl (by kernel_rfl) (by kernel_rfl) (by kernel_rfl) (fun _ _ _ h => h) (by kernel_rfl) (by assumption) (by kernel_rfl) rfl (by simp) (by rfl) ?_ (fun hV => ?_)
        rotate_left 1
        · (intro wq hq; obtain ⟨u0, u1⟩ := hq; go_simp; try with_reducible rfl)
        clear hU; have hU := hV; clear hV
        try simp only [Act.put, aput]
        refine AnyU.take (i := 21) (v := ?_) rfl (by kernel_rfl) (by kernel_rfl) (by kernel_rfl) (fun _ _ _ h => h) (by kernel_rfl) (by assumption) (by rfl) ?_ (fun hV => ?_)
        rotate_left 1
        · (intro wq; go_simp; try with_reducible rfl)
        clear hU; have hU := hV; clear hV
        try simp only [Act.put, aput]
        refine AnyU.take (i := 22) (v := ?_) rfl (by kernel_rfl) (by kernel_rfl) (by kernel_rfl) (fun _ _ _ h => h) (by kernel_rfl) (by assumption) (by rfl) ?_ (fun hV => ?_)
        rotate_left 1
        · (intro wq; go_simp; try with_reducible rfl)
        clear hU; have hU := hV; clear hV
        try simp only [Act.put, aput]
        refine AnyU.take (i := 23) (v := ?_) rfl (by kernel_rfl) (by kernel_rfl) (by kernel_rfl) (fun _ _ _ h => h) (by kernel_rfl) (by assumption) (by rfl) ?_ (fun hV => ?_)
        rotate_left 1
        · (intro wq; go_simp; try with_reducible rfl)
        clear hU; have hU := hV; clear hV
        try simp only [Act.put, aput]
        refine AnyU.take (i := 24) (v := ?_) rfl (by kernel_rfl) (by kernel_rfl) (by kernel_rfl) (fun _ _ _ h => h) (by kernel_rfl) (by assumption) (by rfl) ?_ (fun hV => ?_)
        rotate_left 1
        · (intro wq; go_simp; try with_reducible rfl)
        clear hU; have hU := hV; clear hV
        try simp only [Act.put, aput]
        refine AnyU.take (i := 25) (v := ?_) rfl (by kernel_rfl) (by kernel_rfl) (by kernel_rfl) (fun _ _ _ h => h) (by kernel_rfl) (by assumption) (by rfl) ?_ (fun hV => ?_)
        rotate_left 1
        · (intro wq; go_simp; try with_reducible rfl)
        clear hU; have hU := hV; clear hV
        try simp only [Act.put, aput]
        refine AnyU.take (i := 26) (v := ?_) rfl (by kernel_rfl) (by kernel_rfl) (by kernel_rfl) (fun _ _ _ h => h) (by kernel_rfl) (by assumption) (by rfl) ?_ (fun hV => ?_)
        rotate_left 1
        · (intro wq; go_simp; try with_reducible rfl)
        clear hU; have hU := hV; clear hV
        try simp only [Act.put, aput]
        refine AnyU.take (i := 27) (v := ?_) rfl (by kernel_rfl) (by kernel_rfl) (by kernel_rfl) (fun _ _ _ h => h) (by kernel_rfl) (by assumption) (by rfl) ?_ (fun hV => ?_)
        rotate_left 1
        · (intro wq; go_simp; try with_reducible rfl)
        clear hU; have hU := hV; clear hV
        try simp only [Act.put, aput]
        refine AnyU.take (i := 28) (v := ?_) rfl (by kernel_rfl) (by kernel_rfl) (by kernel_rfl) (fun _ _ _ h => h) (by kernel_rfl) (by assumption) (by rfl) ?_ (fun hV => ?_)
        rotate_left 1
        · (intro wq; go_simp; try with_reducible rfl)
        clear hU; have hU := hV; clear hV
        try simp only [Act.put, aput]
        refine AnyU.loadc (i := 29) (d := 35) [32, 33, 34, 35] (Si := fun w' => w'.cell? ⟨b, o + (k - 1) * 5 + 2, none⟩ = some (.string q)) (v := ?_) rfl (by kernel_rfl) (by kernel_rfl) (by kernel_rfl) (fun _ _ _ h => h) (by kernel_rfl) (by assumption) (by kernel_rfl) rfl (by simp) (by rfl) ?_ (fun hV => ?_)
        rotate_left 1
        · (intro wq hq; go_simp; try with_reducible rfl)
        clear hU; have hU := hV; clear hV
        try simp only [Act.put, aput]
        refine AnyU.take (i := 30) (v := ?_) rfl (by kernel_rfl) (by kernel_rfl) (by kernel_rfl) (fun _ _ _ h => h) (by kernel_rfl) (by assumption) (by rfl) ?_ (fun hV => ?_)
        rotate_left 1
        · (intro wq; go_simp; try with_reducible rfl)
        clear hU; have hU := hV; clear hV
        try simp only [Act.put, aput]
        refine AnyU.loadc (i := 31) (d := 35) [32, 33, 34, 35] (Si := fun w' => Blk w' bd #[.string x.pkg, .int .i64 x.major, .string x.mod, .slice ta x.types.length tc, .slice va x.vals.length vc] 33) (v := ?_) rfl (by kernel_rfl) (by kernel_rfl) (by kernel_rfl) (fun _ _ _ h => h) (by kernel_rfl) (by assumption) (by kernel_rfl) rfl (by simp) (by rfl) ?_ (fun hV => ?_)
        rotate_left 1
        · (intro wq hq; obtain ⟨u0, u1, u2, u3, u4⟩ := cells5 hq; go_simp; try with_reducible rfl)
        clear hU; have hU := hV; clear hV
        try simp only [Act.put, aput]
        refine AnyU.take (i := 32) (v := ?_) rfl (by kernel_rfl) (by kernel_rfl) (by kernel_rfl) (fun _ _ _ h => h) (by kernel_rfl) (by assumption) (by rfl) ?_ (fun hV => ?_)
        rotate_left 1
        · (intro wq; go_simp; try with_reducible rfl)
        clear hU; have hU := hV; clear hV
        try simp only [Act.put, aput]
        refine AnyU.take (i := 33) (v := ?_) rfl (by kernel_rfl) (by kernel_rfl) (by kernel_rfl) (fun _ _ _ h => h) (by kernel_rfl) (by assumption) (by rfl) ?_ (fun hV => ?_)
        rotate_left 1
        · (intro wq; go_simp; try with_reducible rfl)
        clear hU; have hU := hV; clear hV
        try simp only [Act.put, aput]
        refine AnyU.take (i := 34) (v := ?_) rfl (by kernel_rfl) (by kernel_rfl) (by kernel_rfl) (fun _ _ _ h => h) (by kernel_rfl) (by assumption) (by rfl) ?_ (fun hV => ?_)
        rotate_left 1
        · (intro wq; go_simp; try with_reducible rfl)
        clear hU; have hU := hV; clear hV
        try simp only [Act.put, aput]
        refine AnyU.ready1 (i := 35) (by kernel_rfl) (AnyU.one rfl fun K hK => ?_)
        go_simp
        refine hK.out _ _ (Until.off (by kernel_rfl)) (fun hV => ?_)
        clear hK K
        clear hU; have hU := hV; clear hV
        try simp only [Act.put, aput]
        refine AnyU.done (by kernel_rfl) ?_
        go_wp2_with fail
        go_ret
        exact ⟨rfl, A3.out⟩
    · as_aux_lemma =>
        have hok : ipOk l k = true := by rw [HDO.out]; simp
        have hl3 := HLT.out
        refine wp_region_until [(1, fun w' => Blk w' bd #[.string x.pkg, .int .i64 x.major, .string x.mod, .slice ta x.types.length tc, .slice va x.vals.length vc] 33), (35, fun w' => Blk w' bd #[.string x.pkg, .int .i64 x.major, .string x.mod, .slice ta x.types.length tc, .slice va x.vals.length vc] 33), (35, fun w' => w'.cell? ⟨b, o, none⟩ = some (.string y.pkg) ∧ w'.cell? ⟨b, o + 1, none⟩ = some (.int .i64 y.major)), (35, fun w' => w'.cell? ⟨b, o + (k - 1) * 5 + 2, none⟩ = some (.string q))] (by kernel_rfl) (Until.cons (fun _ => BD.out.drew) (Until.cons (fun _ => BD.out.drew) (Until.cons (fun _ => ROW0.out _ A2.out.drew) (Until.cons (fun _ => ((A2.out.cell (p := ⟨b, _, none⟩) hbW).trans HCQ.out)) Until.nil)))) (fun hU => ?_)
        have A2d := Lib.hid A2.out.drew
        clear A2
        have A2 := A2d
        clear A2d
        have BD2 := Lib.hid BD.out.drew
        refine AnyU.loadc (i := 0) (d := 1) [1] (Si := fun w' => Blk w' bd #[.string x.pkg, .int .i64 x.major, .string x.mod, .slice ta x.types.length tc, .slice va x.vals.length vc] 33) (v := ?_) rfl (by kernel_rfl) (by kernel_rfl) (by kernel_rfl) (fun _ _ _ h => h) (by kernel_rfl) (by assumption) (by kernel_rfl) rfl (by simp) (by rfl) ?_ (fun hV => ?_)
        rotate_left 1
        · (intro wq hq; obtain ⟨u0, u1, u2, u3, u4⟩ := cells5 hq; go_simp; try with_reducible rfl)
        clear hU; have hU := hV; clear hV
        try simp only [Act.put, aput]
        refine AnyU.ready1 (i := 1) (by kernel_rfl) (AnyU.one rfl fun K hK => ?_)
        go_simp
        go_at_call 12
        refine (HC1.out _ (HTY.out.under (A2.out.mono hB)) (HVL.out.under (A2.out.mono hB)) (Nat.le_trans hB A2.out.size)).mono ?_
        rintro e w3 ⟨rfl, hb⟩
        have A3 := Lib.hid (A2.out.trans (hb.mono A2.out.size))
        have BD3 := Lib.hid (BD2.out.under hb BD2.out.lt)
        clear hb
        refine hK.out _ _ (Until.cons (fun h => absurd h (by decide)) (Until.cons (fun _ => BD3.out) (Until.cons (fun _ => ROW0.out _ A3.out) (Until.cons (fun _ => (A3.out.cell (p := ⟨b, _, none⟩) hbW).trans HCQ.out) Until.nil)))) (fun hV => ?_)
        clear hK K
        clear hU; have hU := hV; clear hV
        try simp only [Act.put, aput]
        refine AnyU.take (i := 2) (v := ?_) rfl (by kernel_rfl) (by kernel_rfl) (by kernel_rfl) (fun _ _ _ h => h) (by kernel_rfl) (by assumption) (by rfl) ?_ (fun hV => ?_)
        rotate_left 1
        · (intro wq; go_simp; try with_reducible rfl)
        clear hU; have hU := hV; clear hV
        try simp only [Act.put, aput]
        refine AnyU.take (i := 3) (v := ?_) rfl (by kernel_rfl) (by kernel_rfl) (by kernel_rfl) (fun _ _ _ h => h) (by kernel_rfl) (by assumption) (by rfl) ?_ (fun hV => ?_)
        rotate_left 1
        · (intro wq; go_simp; try with_reducible rfl)
        clear hU; have hU := hV; clear hV
        try simp only [Act.put, aput]
        refine AnyU.take (i := 4) (v := ?_) rfl (by kernel_rfl) (by kernel_rfl) (by kernel_rfl) (fun _ _ _ h => h) (by kernel_rfl) (by assumption) (by rfl) ?_ (fun hV => ?_)
        rotate_left 1
        · (intro wq; go_simp; try with_reducible rfl)
        clear hU; have hU := hV; clear hV
        try simp only [Act.put, aput]
        refine AnyU.take (i := 5) (v := ?_) rfl (by kernel_rfl) (by kernel_rfl) (by kernel_rfl) (fun _ _ _ h => h) (by kernel_rfl) (by assumption) (by rfl) ?_ (fun hV => ?_)
        rotate_left 1
        · (intro wq; go_simp; try with_reducible rfl)
        clear hU; have hU := hV; clear hV
        try simp only [Act.put, aput]
        refine AnyU.take (i := 6) (v := ?_) rfl (by kernel_rfl) (by kernel_rfl) (by kernel_rfl) (fun _ _ _ h => h) (by kernel_rfl) (by assumption) (by rfl) ?_ (fun hV => ?_)
        rotate_left 1
        · (intro wq; go_simp; try with_reducible rfl)
        clear hU; have hU := hV; clear hV
        try simp only [Act.put, aput]
        refine AnyU.take (i := 7) (v := ?_) rfl (by kernel_rfl) (by kernel_rfl) (by kernel_rfl) (fun _ _ _ h => h) (by kernel_rfl) (by assumption) (by rfl) ?_ (fun hV => ?_)
        rotate_left 1
        · (intro wq; go_simp; try with_reducible rfl)
        clear hU; have hU := hV; clear hV
        try simp only [Act.put, aput]
        refine AnyU.loadc (i := 8) (d := 35) [13, 14, 22, 23, 33, 34, 35] (Si := fun w' => Blk w' bd #[.string x.pkg, .int .i64 x.major, .string x.mod, .slice ta x.types.length tc, .slice va x.vals.length vc] 33) (v := ?_) rfl (by kernel_rfl) (by kernel_rfl) (by kernel_rfl) (fun _ _ _ h => h) (by kernel_rfl) (by assumption) (by kernel_rfl) rfl (by simp) (by rfl) ?_ (fun hV => ?_)
        rotate_left 1
        · (intro wq hq; obtain ⟨u0, u1, u2, u3, u4⟩ := cells5 hq; go_simp; try with_reducible rfl)
        clear hU; have hU := hV; clear hV
        try simp only [Act.put, aput]
        refine AnyU.take (i := 9) (v := ?_) rfl (by kernel_rfl) (by kernel_rfl) (by kernel_rfl) (fun _ _ _ h => h) (by kernel_rfl) (by assumption) (by rfl) ?_ (fun hV => ?_)
        rotate_left 1
        · (intro wq; go_simp; try with_reducible rfl)
        clear hU; have hU := hV; clear hV
        try simp only [Act.put, aput]
        refine AnyU.take (i := 10) (v := ?_) rfl (by kernel_rfl) (by kernel_rfl) (by kernel_rfl) (fun _ _ _ h => h) (by kernel_rfl) (by assumption) (by rfl) ?_ (fun hV => ?_)
        rotate_left 1
        · (intro wq; go_simp; try with_reducible rfl)
        clear hU; have hU := hV; clear hV
        try simp only [Act.put, aput]
        refine AnyU.take (i := 11) (v := ?_) rfl (by kernel_rfl) (by kernel_rfl) (by kernel_rfl) (fun _ _ _ h => h) (by kernel_rfl) (by assumption) (by rfl) ?_ (fun hV => ?_)
        rotate_left 1
        · (intro wq; go_simp; try with_reducible rfl)
        clear hU; have hU := hV; clear hV
        try simp only [Act.put, aput]
        refine AnyU.loadc (i := 12) (d := 35) [13, 14, 22, 23, 33, 34, 35] (Si := fun w' => w'.cell? ⟨b, o, none⟩ = some (.string y.pkg) ∧ w'.cell? ⟨b, o + 1, none⟩ = some (.int .i64 y.major)) (v := ?_) rfl (by kernel_rfl) (by kernel_rfl) (by kernel_rfl) (fun _ _ _ h => h) (by kernel_rfl) (by assumption) (by kernel_rfl) rfl (by simp) (by rfl) ?_ (fun hV => ?_)
        rotate_left 1
        · (intro wq hq; obtain ⟨u0, u1⟩ := hq; go_simp; try with_reducible rfl)
        clear hU; have hU := hV; clear hV
        try simp only [Act.put, aput]
        refine AnyU.take (i := 13) (v := ?_) rfl (by kernel_rfl) (by kernel_rfl) (by kernel_rfl) (fun _ _ _ h => h) (by kernel_rfl) (by assumption) (by rfl) ?_ (fun hV => ?_)
        rotate_left 1
        · (intro wq; go_simp; try with_reducible rfl)
        clear hU; have hU := hV; clear hV
        try simp only [Act.put, aput]
        refine AnyU.take (i := 14) (v := ?_) rfl (by kernel_rfl) (by kernel_rfl) (by kernel_rfl) (fun _ _ _ h => h) (by kernel_rfl) (by assumption) (by rfl) ?_ (fun hV => ?_)
        rotate_left 1
        · (intro wq; go_simp; try with_reducible rfl)
        clear hU; have hU := hV; clear hV
        try simp only [Act.put, aput]
        refine AnyU.take (i := 15) (v := ?_) rfl (by kernel_rfl) (by kernel_rfl) (by kernel_rfl) (fun _ _ _ h => h) (by kernel_rfl) (by assumption) (by rfl) ?_ (fun hV => ?_)
        rotate_left 1
        · (intro wq; go_simp; try with_reducible rfl)
        clear hU; have hU := hV; clear hV
        try simp only [Act.put, aput]
        refine AnyU.loadc (i := 16) (d := 35) [21, 22, 23, 33, 34, 35] (Si := fun w' => Blk w' bd #[.string x.pkg, .int .i64 x.major, .string x.mod, .slice ta x.types.length tc, .slice va x.vals.length vc] 33) (v := ?_) rfl (by kernel_rfl) (by kernel_rfl) (by kernel_rfl) (fun _ _ _ h => h) (by kernel_rfl) (by assumption) (by kernel_rfl) rfl (by simp) (by rfl) ?_ (fun hV => ?_)
        rotate_left 1
        · (intro wq hq; obtain ⟨u0, u1, u2, u3, u4⟩ := cells5 hq; go_simp; try with_reducible rfl)
        clear hU; have hU := hV; clear hV
        try simp only [Act.put, aput]
        refine AnyU.take (i := 17) (v := ?_) rfl (by kernel_rfl) (by kernel_rfl) (by kernel_rfl) (fun _ _ _ h => h) (by kernel_rfl) (by assumption) (by rfl) ?_ (fun hV => ?_)
        rotate_left 1
        · (intro wq; go_simp; try with_reducible rfl)
        clear hU; have hU := hV; clear hV
        try simp only [Act.put, aput]
        refine AnyU.take (i := 18) (v := ?_) rfl (by kernel_rfl) (by kernel_rfl) (by kernel_rfl) (fun _ _ _ h => h) (by kernel_rfl) (by assumption) (by rfl) ?_ (fun hV => ?_)
        rotate_left 1
        · (intro wq; go_simp; try with_reducible rfl)
        clear hU; have hU := hV; clear hV
        try simp only [Act.put, aput]
        refine AnyU.take (i := 19) (v := ?_) rfl (by kernel_rfl) (by kernel_rfl) (by kernel_rfl) (fun _ _ _ h => h) (by kernel_rfl) (by assumption) (by rfl) ?_ (fun hV => ?_)
        rotate_left 1
        · (intro wq; go_simp; try with_reducible rfl)
        clear hU; have hU := hV; clear hV
        try simp only [Act.put, aput]
        refine AnyU.loadc (i := 20) (d := 35) [21, 22, 23, 33, 34, 35] (Si := fun w' => w'.cell? ⟨b, o, none⟩ = some (.string y.pkg) ∧ w'.cell? ⟨b, o + 1, none⟩ = some (.int .i64 y.major)) (v := ?_) rfl (by kernel_rfl) (by kernel_rfl) (by kernel_rfl) (fun _ _ _ h => h) (by kernel_rfl) (by assumption) (by kernel_rfl) rfl (by simp) (by rfl) ?_ (fun hV => ?_)
        rotate_left 1
        · (intro wq hq; obtain ⟨u0, u1⟩ := hq; go_simp; try with_reducible rfl)
        clear hU; have hU := hV; clear hV
        try simp only [Act.put, aput]
        refine AnyU.take (i := 21) (v := ?_) rfl (by kernel_rfl) (by kernel_rfl) (by kernel_rfl) (fun _ _ _ h => h) (by kernel_rfl) (by assumption) (by rfl) ?_ (fun hV => ?_)
        rotate_left 1
        · (intro wq; go_simp; try with_reducible rfl)
        clear hU; have hU := hV; clear hV
        try simp only [Act.put, aput]
        refine AnyU.take (i := 22) (v := ?_) rfl (by kernel_rfl) (by kernel_rfl) (by kernel_rfl) (fun _ _ _ h => h) (by kernel_rfl) (by assumption) (by rfl) ?_ (fun hV => ?_)
        rotate_left 1
        · (intro wq; go_simp; try with_reducible rfl)
        clear hU; have hU := hV; clear hV
        try simp only [Act.put, aput]
        refine AnyU.take (i := 23) (v := ?_) rfl (by kernel_rfl) (by kernel_rfl) (by kernel_rfl) (fun _ _ _ h => h) (by kernel_rfl) (by assumption) (by rfl) ?_ (fun hV => ?_)
        rotate_left 1
        · (intro wq; go_simp; try with_reducible rfl)
        clear hU; have hU := hV; clear hV
        try simp only [Act.put, aput]
        refine AnyU.take (i := 24) (v := ?_) rfl (by kernel_rfl) (by kernel_rfl) (by kernel_rfl) (fun _ _ _ h => h) (by kernel_rfl) (by assumption) (by rfl) ?_ (fun hV => ?_)
        rotate_left 1
        · (intro wq; go_simp; try with_reducible rfl)
        clear hU; have hU := hV; clear hV
        try simp only [Act.put, aput]
        refine AnyU.take (i := 25) (v := ?_) rfl (by kernel_rfl) (by kernel_rfl) (by kernel_rfl) (fun _ _ _ h => h) (by kernel_rfl) (by assumption) (by rfl) ?_ (fun hV => ?_)
        rotate_left 1
        · (intro wq; go_simp; try with_reducible rfl)
        clear hU; have hU := hV; clear hV
        try simp only [Act.put, aput]
        refine AnyU.take (i := 26) (v := ?_) rfl (by kernel_rfl) (by kernel_rfl) (by kernel_rfl) (fun _ _ _ h => h) (by kernel_rfl) (by assumption) (by rfl) ?_ (fun hV => ?_)
        rotate_left 1
        · (intro wq; go_simp; try with_reducible rfl)
        clear hU; have hU := hV; clear hV
        try simp only [Act.put, aput]
        refine AnyU.take (i := 27) (v := ?_) rfl (by kernel_rfl) (by kernel_rfl) (by kernel_rfl) (fun _ _ _ h => h) (by kernel_rfl) (by assumption) (by rfl) ?_ (fun hV => ?_)
        rotate_left 1
        · (intro wq; go_simp; try with_reducible rfl)
        clear hU; have hU := hV; clear hV
        try simp only [Act.put, aput]
        refine AnyU.take (i := 28) (v := ?_) rfl (by kernel_rfl) (by kernel_rfl) (by kernel_rfl) (fun _ _ _ h => h) (by kernel_rfl) (by assumption) (by rfl) ?_ (fun hV => ?_)
        rotate_left 1
        · (intro wq; go_simp; try with_reducible rfl)
        clear hU; have hU := hV; clear hV
        try simp only [Act.put, aput]
        refine AnyU.loadc (i := 29) (d := 35) [32, 33, 34, 35] (Si := fun w' => w'.cell? ⟨b, o + (k - 1) * 5 + 2, none⟩ = some (.string q)) (v := ?_) rfl (by kernel_rfl) (by kernel_rfl) (by kernel_rfl) (fun _ _ _ h => h) (by kernel_rfl) (by assumption) (by kernel_rfl) rfl (by simp) (by rfl) ?_ (fun hV => ?_)
        rotate_left 1
        · (intro wq hq; go_simp; try with_reducible rfl)
        clear hU; have hU := hV; clear hV
        try simp only [Act.put, aput]
        refine AnyU.take (i := 30) (v := ?_) rfl (by kernel_rfl) (by kernel_rfl) (by kernel_rfl) (fun _ _ _ h => h) (by kernel_rfl) (by assumption) (by rfl) ?_ (fun hV => ?_)
        rotate_left 1
        · (intro wq; go_simp; try with_reducible rfl)
        clear hU; have hU := hV; clear hV
        try simp only [Act.put, aput]
        refine AnyU.loadc (i := 31) (d := 35) [32, 33, 34, 35] (Si := fun w' => Blk w' bd #[.string x.pkg, .int .i64 x.major, .string x.mod, .slice ta x.types.length tc, .slice va x.vals.length vc] 33) (v := ?_) rfl (by kernel_rfl) (by kernel_rfl) (by kernel_rfl) (fun _ _ _ h => h) (by kernel_rfl) (by assumption) (by kernel_rfl) rfl (by simp) (by rfl) ?_ (fun hV => ?_)
        rotate_left 1
        · (intro wq hq; obtain ⟨u0, u1, u2, u3, u4⟩ := cells5 hq; go_simp; try with_reducible rfl)
        clear hU; have hU := hV; clear hV
        try simp only [Act.put, aput]
        refine AnyU.take (i := 32) (v := ?_) rfl (by kernel_rfl) (by kernel_rfl) (by kernel_rfl) (fun _ _ _ h => h) (by kernel_rfl) (by assumption) (by rfl) ?_ (fun hV => ?_)
        rotate_left 1
        · (intro wq; go_simp; try with_reducible rfl)
        clear hU; have hU := hV; clear hV
        try simp only [Act.put, aput]
        refine AnyU.take (i := 33) (v := ?_) rfl (by kernel_rfl) (by kernel_rfl) (by kernel_rfl) (fun _ _ _ h => h) (by kernel_rfl) (by assumption) (by rfl) ?_ (fun hV => ?_)
        rotate_left 1
        · (intro wq; go_simp; try with_reducible rfl)
        clear hU; have hU := hV; clear hV
        try simp only [Act.put, aput]
        refine AnyU.take (i := 34) (v := ?_) rfl (by kernel_rfl) (by kernel_rfl) (by kernel_rfl) (fun _ _ _ h => h) (by kernel_rfl) (by assumption) (by rfl) ?_ (fun hV => ?_)
        rotate_left 1
        · (intro wq; go_simp; try with_reducible rfl)
        clear hU; have hU := hV; clear hV
        try simp only [Act.put, aput]
        refine AnyU.ready1 (i := 35) (by kernel_rfl) (AnyU.one rfl fun K hK => ?_)
        go_simp
        refine hK.out _ _ (Until.off (by kernel_rfl)) (fun hV => ?_)
        clear hK K
        clear hU; have hU := hV; clear hV
        try simp only [Act.put, aput]
        refine AnyU.done (by kernel_rfl) ?_
        go_wp2_with fail
        exact ⟨⟨k + 1, by go_num, by omega, A3.out, fun i hi => by
          by_cases e : i = k
          · subst e; exact hok
          · exact HA.out i (by omega)⟩, by simp [intOf]; omega⟩
end Go.Proofs.YtjeldfipipkfiaaGreat
