/- The contract of merlonref12.May; memory: a row of interfaces that are few. -/
import Derived.Test.YtbffijiecbfpnaaGreatDoorBMay
import Derived.Deep.QuietTactic
import Derived.Deep.Draws
namespace Go.Proofs.YtbffijiecbfpnaaGreatDoor
open Go.RowKit
set_option linter.unusedSimpArgs false
set_option linter.unusedVariables false
theorem mayP_long {l : List If} (h : ¬ l.length ≤ 20) : mayP l = false := by simp [mayP, h]
set_option maxRecDepth 100000 in
set_option maxHeartbeats 40000000 in
theorem refMay12_c (l : List If) (A : Option Addr) (cap B : Nat) (w : World) (h : IfsAt w B A l) (hB : B ≤ w.heap.size) (hl : l.length ≤ maxLen) (hfew : l.all fewX = true) :
    Calls Tryz.prog 17 #[.slice A l.length cap] w fun e w' => e = .returned (.bool (mayP l)) ∧ Below w.heap.size w w' := by
  obtain ⟨R, hR⟩ : ∃ R, mayP l = R := ⟨_, rfl⟩
  rw [hR]
  have HR := Lib.hid hR
  have H := Lib.hid h
  have HF := Lib.hid hfew
  unfold maxLen at hl
  clear hR h hfew
  by_cases h20 : l.length ≤ 20
  rotate_left
  · have h20I : (20 : Int) < (l.length : Int) := by omega
    have hr := HR.out.symm.trans (mayP_long h20)
    subst hr
    clear h20
    go_enter Tryz.func17, Tryz.ntmps17
    go_wp2_with fail
    go_ret
    exact ⟨rfl, Below.refl _ _⟩
  have h20I : ¬ (20 : Int) < (l.length : Int) := by omega
  go_enter Tryz.func17, Tryz.ntmps17
  go_wp2_with fail
  go_loopw [3] (fun iv wr => ∃ k : Nat, iv = .int .i64 k ∧ k ≤ l.length ∧ Below w.heap.size w wr ∧ ∀ i, i < k → ipOk l i = true) (fun iv _ => l.length - (intOf iv).toNat)
  case atStart => exact ⟨0, rfl, Nat.zero_le _, Below.refl _ _, fun i hi => absurd hi (by omega)⟩
  case round =>
    obtain ⟨k, rfl, hk, hb1, hall⟩ := hrel
    have A1 := Lib.hid hb1
    have HA := Lib.hid hall
    clear hb1 hall
    by_cases hlt : k < l.length
    rotate_left
    · obtain rfl : k = l.length := by omega
      have hltI : ¬ (l.length : Int) < (l.length : Int) := by omega
      have hr : R = true := by rw [← HR.out, mayP_all HA.out]; simpa using h20
      subst hr
      go_wp2_with fail
      go_ret
      exact ⟨rfl, A1.out⟩
    have hltI : (k : Int) < (l.length : Int) := by omega
    obtain ⟨x, hx⟩ : ∃ x, l[k] = x := ⟨_, rfl⟩
    obtain ⟨y, hy⟩ : ∃ y, (l[0]'(by omega)) = y := ⟨_, rfl⟩
    have hfx : fewX x = true := List.all_eq_true.1 HF.out x (by rw [← hx]; exact List.getElem_mem hlt)
    obtain ⟨fx, b, o, ta, tc, va, vc, rfl, hbB, hT, hV, htc, hvc, c0, c1, c2, c3, c4⟩ := H.out.elem hlt hx
    obtain ⟨-, b', o', -, -, -, -, e', -, -, -, -, -, r0, r1, -⟩ := H.out.elem (show 0 < l.length by omega) hy
    injection e' with e'
    injection e' with e1 e2
    subst e1 e2
    simp at r0 r1
    have hbW : b < w.heap.size := by omega
    have hbR : b < wr.heap.size := Nat.lt_of_lt_of_le hbW A1.out.size
    have CELLS := Lib.hid (fun (W : World) (hb : Below w.heap.size w W) => (show (W.cell? ⟨b, o, none⟩ = some (.string y.pkg) ∧ W.cell? ⟨b, o + 1, none⟩ = some (.int .i64 y.major)) ∧ W.cell? ⟨b, o + k * 5, none⟩ = some (.string x.pkg) ∧ W.cell? ⟨b, o + k * 5 + 1, none⟩ = some (.int .i64 x.major) ∧ W.cell? ⟨b, o + k * 5 + 2, none⟩ = some (.string x.mod) from ⟨⟨(hb.cell (p := ⟨b, _, none⟩) hbW).trans r0, (hb.cell (p := ⟨b, _, none⟩) hbW).trans r1⟩, (hb.cell (p := ⟨b, _, none⟩) hbW).trans c0, (hb.cell (p := ⟨b, _, none⟩) hbW).trans c1, (hb.cell (p := ⟨b, _, none⟩) hbW).trans c2⟩))
    have HTY := Lib.hid hT
    have HVL := Lib.hid hV
    rw [← A1.out.cell (p := ⟨b, _, none⟩) hbW] at c0 c1 c2 c3 c4
    have hC1 := fun w h h2 h3 => refIfMay_c x ta tc va vc B w fx h h2 h3 hfx
    obtain ⟨s, hs⟩ : ∃ s, imayB x = s := ⟨_, rfl⟩
    simp only [hs, ifCells] at hC1
    have HC1 := Lib.hid hC1
    have hdO : ipOk l k = (s && ((x.pkg.toList == y.pkg.toList) && ((x.major == y.major) && (decide (k = 0) || ltB (l[k - 1]'(by omega)).mod x.mod)))) := by
      rw [ipOk, dif_pos hlt]
      simp only [hx, hy, hs]
    have HDO := Lib.hid hdO
    have HXY := Lib.hid (show k = 0 → x = y from fun e => by subst e; rw [← hx, ← hy])
    clear hdO hC1 hs hT hV hx hy r0 r1 fx hfx
    go_upto_region 7 with (go_at_call 36; refine (HC1.out _ (HTY.out.under (A1.out.mono hB)) (HVL.out.under (A1.out.mono hB)) (Nat.le_trans hB A1.out.size)).mono ?_; rintro e w3 ⟨rfl, hb⟩; have A3 := Lib.hid (A1.out.trans (hb.mono A1.out.size)); clear hb c0 c1 c2 c3 c4)
    obtain ⟨⟨y0, y1⟩, x0, x1, x2⟩ := CELLS.out w3 A3.out
    have hbR3 : b < w3.heap.size := Nat.lt_of_lt_of_le hbW A3.out.size
    have hl0 : 0 < l.length := by omega
    have hl0I : (0 : Int) < (l.length : Int) := by omega
    cases s
    · have hr := HR.out.symm.trans (mayP_bad hlt (by rw [HDO.out]; rfl))
      subst hr
      go_quiet (fail)
      go_wp2_with fail
      go_ret
      exact ⟨rfl, below_drewN A3.out _⟩
    by_cases h0 : k = 0
    · subst h0
      have hxy := HXY.out rfl
      have hok : ipOk l 0 = true := by rw [HDO.out, hxy]; simp
      have HOK := Lib.hid hok
      have hep : (x.pkg.toList == y.pkg.toList) = true := by rw [hxy]; simp
      have hem : (x.major != y.major) = false := by rw [hxy]; simp
      clear hxy hok
      simp at x0 x1 x2
      go_quiet (fail)
      go_wp2_with fail
      exact ⟨⟨0 + 1, by go_num, by omega, below_drewN A3.out _, fun i hi => by obtain rfl : i = 0 := by omega
                                                                               exact HOK.out⟩, by simp [intOf]; omega⟩
    have hk0I : (0 : Int) < (k : Int) := by omega
    have hk0D : decide (0 < k) = true := by simp; omega
    obtain ⟨ep, hep⟩ : ∃ e, (x.pkg.toList == y.pkg.toList) = e := ⟨_, rfl⟩
    obtain ⟨em, hem⟩ : ∃ e, (x.major == y.major) = e := ⟨_, rfl⟩
    rw [hep, hem] at HDO
    have hmn : (x.major != y.major) = !em := by rw [bne, hem]
    cases ep
    · have hr := HR.out.symm.trans (mayP_bad hlt (by rw [HDO.out]; simp))
      subst hr
      go_quiet (fail)
      go_wp2_with fail
      go_ret
      exact ⟨rfl, below_drewN A3.out _⟩
    cases em
    · have hr := HR.out.symm.trans (mayP_bad hlt (by rw [HDO.out]; simp))
      subst hr
      go_quiet (fail)
      go_wp2_with fail
      go_ret
      exact ⟨rfl, below_drewN A3.out _⟩
    have hkB : ((k - 1 : Nat) : Int) < (l.length : Int) := by omega
    have hkB2 : k - 1 < l.length := by omega
    have hkw : IntKind.i64.wrap ((k - 1 : Nat) : Int) = ((k - 1 : Nat) : Int) := by rw [IntKind.wrap_i64]; omega
    have hkm : (k : Int) - 1 = ((k - 1 : Nat) : Int) := by omega
    obtain ⟨q, hq⟩ : ∃ q, (l[k - 1]'(by omega)).mod = q := ⟨_, rfl⟩
    obtain ⟨-, b', o', -, -, -, -, e', -, -, -, -, -, -, -, hcq, -⟩ := H.out.elem hkB2 rfl
    injection e' with e'
    injection e' with e1 e2
    subst e1 e2
    rw [hq, ← A3.out.cell (p := ⟨b, _, none⟩) hbW] at hcq
    rw [hq] at HDO
    obtain ⟨lt, hlt2⟩ : ∃ z, ltB q x.mod = z := ⟨_, rfl⟩
    rw [hlt2] at HDO
    have hle : (Op.bytesLess x.mod.toList q.toList || x.mod.toList == q.toList) = !lt := by rw [less_total, ← hlt2]; rfl
    clear hlt2 hq
    cases lt
    · have hr := HR.out.symm.trans (mayP_bad hlt (by rw [HDO.out]; simp [h0]))
      subst hr
      go_quiet (fail)
      go_wp2_with fail
      go_ret
      exact ⟨rfl, below_drewN A3.out _⟩
    · have hok : ipOk l k = true := by rw [HDO.out]; simp
      have HOK := Lib.hid hok
      clear hok
      go_quiet (fail)
      go_wp2_with fail
      exact ⟨⟨k + 1, by go_num, by omega, below_drewN A3.out _, fun i hi => by
        by_cases e : i = k
        · subst e; exact HOK.out
        · exact HA.out i (by omega)⟩, by simp [intOf]; omega⟩
end Go.Proofs.YtbffijiecbfpnaaGreatDoor
