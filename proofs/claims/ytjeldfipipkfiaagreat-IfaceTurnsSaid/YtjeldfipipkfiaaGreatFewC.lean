/- The contract of merlonref08.Few; memory: a row of interfaces. -/
import Derived.Test.YtjeldfipipkfiaaGreatGScope
namespace Go.Proofs.YtjeldfipipkfiaaGreat
open Go.RowKit
set_option linter.unusedSimpArgs false
set_option linter.unusedVariables false
theorem fewX_n {x : If} (h1 : x.types.length ≤ 200) (h2 : x.vals.length ≤ 200) : fewX x = (fewN x.types && fewN x.vals) := by simp [fewX, h1, h2]
theorem fewX_no {x : If} (h : ¬ x.types.length ≤ 200 ∨ ¬ x.vals.length ≤ 200) : fewX x = false := by
  rcases h with h | h <;> simp [fewX, h]
theorem FewI_bad {l : List If} {k : Nat} (hk : k < l.length) (h : fewX l[k] = false) : FewI l = false := by rw [FewI, all_bad hk h, Bool.and_false]
set_option maxRecDepth 100000 in
set_option maxHeartbeats 8000000 in
theorem FewI_c (l : List If) (A : Option Addr) (cap B : Nat) (w : World) (h : IfsAt w B A l) (hB : B ≤ w.heap.size) (hl : l.length ≤ maxLen) :
    Calls Tryz.prog 8 #[.slice A l.length cap] w fun e w' => e = .returned (.bool (FewI l)) ∧ Below w.heap.size w w' := by
  unfold maxLen at hl
  have H := Lib.hid h
  clear h
  by_cases h2 : l.length ≤ 200
  rotate_left
  · have h2I : (200 : Int) < (l.length : Int) := by omega
    have hr : FewI l = false := by simp [FewI, h2]
    have HR := Lib.hid hr
    clear hr h2
    go_enter Tryz.func8, Tryz.ntmps8
    go_wp2_with fail
    go_ret
    exact ⟨ret_b HR.out.symm, Below.refl _ _⟩
  have h2I : ¬ (200 : Int) < (l.length : Int) := by omega
  go_enter Tryz.func8, Tryz.ntmps8
  go_wp2_with fail
  go_loopw [3] (fun i w1 => ∃ k : Nat, i = .int .i64 k ∧ k ≤ l.length ∧ Below w.heap.size w w1 ∧ (l.take k).all fewX = true) (fun i _ => l.length - (intOf i).toNat)
  case atStart => exact ⟨0, rfl, Nat.zero_le _, Below.refl _ _, rfl⟩
  case round =>
    rename World => wa
    obtain ⟨k, rfl, hk, hb, hall⟩ := hrel
    have HA := Lib.hid hb
    have HALL := Lib.hid hall
    clear hb hall
    by_cases hlt : k < l.length
    rotate_left
    · obtain rfl : k = l.length := by omega
      have hltI : ¬ (l.length : Int) < (l.length : Int) := by omega
      go_wp2_with fail
      go_ret
      exact ⟨ret_b (by rw [FewI, all_take_end HALL.out]; simp [h2]), HA.out⟩
    have hltI : (k : Int) < (l.length : Int) := by omega
    obtain ⟨x, hx⟩ : ∃ x, l[k] = x := ⟨_, rfl⟩
    have hw := HA.out.size
    obtain ⟨fx, b, o, ta, tc, va, vc, rfl, hbB, hT, hV, htc, hvc, c0, c1, c2, c3, c4⟩ := (H.out.under (HA.out.mono hB)).elem hlt hx
    have hbw : b < wa.heap.size := by omega
    have FX := Lib.hid fx
    have HT := Lib.hid hT
    have HV := Lib.hid hV
    have HX := Lib.hid hx
    clear hT hV hx fx c0 c1 c2
    by_cases ht2 : x.types.length ≤ 200
    rotate_left
    · have htI : (200 : Int) < (x.types.length : Int) := by omega
      have hr := FewI_bad hlt (by rw [HX.out]; exact fewX_no (.inl ht2))
      have HR := Lib.hid hr
      clear hr ht2
      go_wp2_with fail
      go_ret
      exact ⟨ret_b HR.out.symm, HA.out⟩
    by_cases hv2 : x.vals.length ≤ 200
    rotate_left
    · have htI : ¬ (200 : Int) < (x.types.length : Int) := by omega
      have hvI : (200 : Int) < (x.vals.length : Int) := by omega
      have hr := FewI_bad hlt (by rw [HX.out]; exact fewX_no (.inr hv2))
      have HR := Lib.hid hr
      clear hr hv2
      go_wp2_with fail
      go_ret
      exact ⟨ret_b HR.out.symm, HA.out⟩
    have htI : ¬ (200 : Int) < (x.types.length : Int) := by omega
    have hvI : ¬ (200 : Int) < (x.vals.length : Int) := by omega
    have HFX := Lib.hid (fewX_n ht2 hv2)
    go_wp2_with fail
    go_loopw [4] (fun i w2 => ∃ q : Nat, i = .int .i64 q ∧ q ≤ x.types.length ∧ Below wa.heap.size wa w2 ∧ (x.types.take q).all (fun n => FewB n.ty) = true) (fun i _ => x.types.length - (intOf i).toNat)
    case atStart => exact ⟨0, rfl, Nat.zero_le _, Below.refl _ _, rfl⟩
    case round =>
      rename World => wr2
      obtain ⟨q, rfl, hq, hb2, hall2⟩ := hrel
      have HA2 := Lib.hid hb2
      have HALL2 := Lib.hid hall2
      have d3 := (hb2.cell (p := ⟨b, _, none⟩) hbw).trans c3
      have d4 := (hb2.cell (p := ⟨b, _, none⟩) hbw).trans c4
      clear hb2 hall2
      by_cases hqt : q < x.types.length
      · have hqI : (q : Int) < (x.types.length : Int) := by omega
        obtain ⟨n, hn⟩ : ∃ n, x.types[q] = n := ⟨_, rfl⟩
        obtain ⟨fn, b2, o2, na, nc, sa, sc, rfl, hb2B, hty, e0, e1, e2, e3, e4, e5, e6, e7⟩ := (HT.out.under (HA2.out.mono (by omega))).elem hqt hn
        have HN := Lib.hid hn
        have hC := fun w2 ht hB2 => Few_c n.ty (tyCells n.ty na nc sa sc) B w2 ht hB2
        simp only [tyCells] at hC
        have HC := Lib.hid hC
        have HTY := Lib.hid hty
        simp only [tyCells] at HTY
        obtain ⟨v, hv⟩ : ∃ v, FewB n.ty = v := ⟨_, rfl⟩
        rw [hv] at HC
        have HVV := Lib.hid hv
        have hw2 := HA2.out.size
        clear hC hty hv hn
        have hb2w : b2 < wr2.heap.size := by omega
        cases v
        · have hr := FewI_bad hlt (by rw [HX.out, HFX.out, fewN, all_bad hqt (by rw [HN.out]; exact HVV.out), Bool.false_and])
          have HR := Lib.hid hr
          clear hr
          go_wp2_with (go_at_call 20; refine (HC.out _ HTY.out (by omega)).mono ?_; rintro e w3 ⟨rfl, hb3⟩)
          go_ret
          exact ⟨ret_b HR.out.symm, (acc0 HA.out HA.out.size (HA2.out)).trans (hb3.mono (by omega))⟩
        · go_wp2_with (go_at_call 20; refine (HC.out _ HTY.out (by omega)).mono ?_; rintro e w3 ⟨rfl, hb3⟩)
          exact ⟨⟨q + 1, by go_num, by omega, HA2.out.trans (hb3.mono HA2.out.size), all_take_snoc hqt HALL2.out (by rw [HN.out]; exact HVV.out)⟩, by simp [intOf]; omega⟩
      · obtain rfl : q = x.types.length := by omega
        have hqI : ¬ (x.types.length : Int) < (x.types.length : Int) := by omega
        have HALLT := Lib.hid (all_take_end HALL2.out)
        have A1 := Lib.hid (acc0 HA.out HA.out.size HA2.out)
        have hw2 := HA2.out.size
        have hbw2 : b < wr2.heap.size := by omega
        have HV2 := Lib.hid (HV.out.under (HA2.out.mono (by omega)))
        clear c3 c4 HALL2
        go_wp2_with fail
        go_loopw [6] (fun i w2 => ∃ q : Nat, i = .int .i64 q ∧ q ≤ x.vals.length ∧ Below wr2.heap.size wr2 w2 ∧ (x.vals.take q).all (fun n => FewB n.ty) = true) (fun i _ => x.vals.length - (intOf i).toNat)
        case atStart => exact ⟨0, rfl, Nat.zero_le _, Below.refl _ _, rfl⟩
        case round =>
          rename World => wr3
          obtain ⟨q, rfl, hq, hb3, hall3⟩ := hrel
          have HA3 := Lib.hid hb3
          have HALL3 := Lib.hid hall3
          have g4 := (hb3.cell (p := ⟨b, _, none⟩) hbw2).trans d4
          clear hb3 hall3 d3 d4
          have hw3 := HA3.out.size
          by_cases hqt : q < x.vals.length
          · have hqI : (q : Int) < (x.vals.length : Int) := by omega
            obtain ⟨n, hn⟩ : ∃ n, x.vals[q] = n := ⟨_, rfl⟩
            obtain ⟨fn, b2, o2, na, nc, sa, sc, rfl, hb2B, hty, e0, e1, e2, e3, e4, e5, e6, e7⟩ := (HV2.out.under (HA3.out.mono (by omega))).elem hqt hn
            have HN := Lib.hid hn
            have hC := fun w2 ht hB2 => Few_c n.ty (tyCells n.ty na nc sa sc) B w2 ht hB2
            simp only [tyCells] at hC
            have HC := Lib.hid hC
            have HTY := Lib.hid hty
            simp only [tyCells] at HTY
            obtain ⟨v, hv⟩ : ∃ v, FewB n.ty = v := ⟨_, rfl⟩
            rw [hv] at HC
            have HVV := Lib.hid hv
            clear hC hty hv hn
            have hb2w : b2 < wr3.heap.size := by omega
            cases v
            · have hr := FewI_bad hlt (by rw [HX.out, HFX.out, fewN, fewN, all_bad hqt (by rw [HN.out]; exact HVV.out), Bool.and_false])
              have HR := Lib.hid hr
              clear hr
              go_wp2_with (go_at_call 20; refine (HC.out _ HTY.out (by omega)).mono ?_; rintro e w4 ⟨rfl, hb4⟩)
              go_ret
              exact ⟨ret_b HR.out.symm, (acc0 A1.out A1.out.size HA3.out).trans (hb4.mono (by omega))⟩
            · go_wp2_with (go_at_call 20; refine (HC.out _ HTY.out (by omega)).mono ?_; rintro e w4 ⟨rfl, hb4⟩)
              exact ⟨⟨q + 1, by go_num, by omega, HA3.out.trans (hb4.mono HA3.out.size), all_take_snoc hqt HALL3.out (by rw [HN.out]; exact HVV.out)⟩, by simp [intOf]; omega⟩
          · obtain rfl : q = x.vals.length := by omega
            have hqI : ¬ (x.vals.length : Int) < (x.vals.length : Int) := by omega
            have hfx : fewX l[k] = true := by rw [HX.out, HFX.out, fewN, fewN, HALLT.out, all_take_end HALL3.out]; rfl
            have HFF := Lib.hid hfx
            have A2 := Lib.hid (acc0 A1.out A1.out.size HA3.out)
            clear hfx
            go_wp2_with fail
            exact ⟨⟨k + 1, by go_num, by omega, A2.out, all_take_snoc hlt HALL.out HFF.out⟩, by simp [intOf]; omega⟩
end Go.Proofs.YtjeldfipipkfiaaGreat
