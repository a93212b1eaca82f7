/- merlonlaw13.WitnessAlike returns true. -/
import Derived.Test.YtjeldfipipkfiaaGreatDoorGUpW
import Derived.Test.YtjeldfipipkfiaaGreatDoorGUsD
import Derived.Test.YtjeldfipipkfiaaGreatDoorGOf
namespace Go.Proofs.YtjeldfipipkfiaaGreatDoor
open Go.RowKit
set_option linter.unusedSimpArgs false
set_option linter.unusedVariables false
theorem envI_few {w : World} {B : Nat} {a : List If} {A : Option Addr} {c : Nat} (h : IfsAt w B A a) (hc : a.length ≤ c) (hf : FewI a = true) : EnvI w B a A c := by
  rw [FewI, Bool.and_eq_true, decide_eq_true_eq, List.all_eq_true] at hf
  obtain ⟨h1, h2⟩ := hf
  refine ⟨h, by omega, fun x hx => ?_, fun x hx => ?_, hc⟩
  · have := h2 x hx
    simp only [fewX, Bool.and_eq_true, decide_eq_true_eq] at this
    omega
  · have := h2 x hx
    simp only [fewX, Bool.and_eq_true, decide_eq_true_eq] at this
    omega
set_option maxRecDepth 100000 in
set_option maxHeartbeats 40000000 in
theorem walike_c (A A' ia la : Option Addr) (c c' ic lc B : Nat) (x y : List If) (u : Us) (w : World) (h1 : IfsAt w B A x) (h2 : IfsAt w B A' y) (h3 : UsO w B u ia ic la lc) (hB : B ≤ w.heap.size) (hl : x.length ≤ maxLen) (hl' : y.length ≤ maxLen) (hc : x.length ≤ c) (hc' : y.length ≤ c') :
    Calls Tryz.prog 11 #[.slice A x.length c, .slice A' y.length c', .agg #[.slice ia u.imps.length ic, .slice la u.lines.length lc]] w fun e w' => e = .returned (.bool true) ∧ Below w.heap.size w w' := by
  have H1 := Lib.hid h1
  have H2 := Lib.hid h2
  have H3 := Lib.hid h3
  have F1 := fun w h hB => FewI_c x A c B w h hB hl
  have F2 := fun w h hB => FewI_c y A' c' B w h hB hl'
  have F3 := fun w h hB => fewU_c u.imps.length u.lines ia ic la lc B w h h3.ni h3.nl hB
  obtain ⟨f1, e1⟩ : ∃ f, FewI x = f := ⟨_, rfl⟩
  obtain ⟨f2, e2⟩ : ∃ f, FewI y = f := ⟨_, rfl⟩
  simp only [e1] at F1
  simp only [e2] at F2
  have G1 := Lib.hid F1
  have G2 := Lib.hid F2
  have G3 := Lib.hid F3
  have E1 := Lib.hid e1
  have E2 := Lib.hid e2
  have HC := Lib.hid (And.intro hc hc')
  clear h1 h2 h3 F1 F2 F3 e1 e2 hl hl' hc hc'
  have en := eq_errnil
  have ne := neq_errnil
  go_enter Tryz.func11, Tryz.ntmps11
  go_upto_region 1 with fail
  obtain ⟨b1, hb1, -⟩ := laidN w #[.slice ia u.imps.length ic, .slice la u.lines.length lc] 82
  generalize w.alloc (.cells #[.slice ia u.imps.length ic, .slice la u.lines.length lc] 82) = W0 at b1 hb1 ⊢
  have B0 := Lib.hid hb1
  have D0 := Lib.hid b1
  clear b1 hb1
  go_upto_region 2 with (go_at_call 41; refine (upW_c _).mono ?_; rintro e w1 ⟨rfl, hb⟩; have B1 := Lib.hid (B0.out.trans (hb.mono B0.out.size)); have D1 := Lib.hid (D0.out.under hb D0.out.lt); clear hb)
  go_upto_region 3 with (go_at_call 26; refine (G1.out _ (H1.out.under (B1.out.mono hB)) (Nat.le_trans hB B1.out.size)).mono ?_; rintro e w2 ⟨rfl, hb⟩; have B2 := Lib.hid (B1.out.trans (hb.mono B1.out.size)); have D2 := Lib.hid (D1.out.under hb D1.out.lt); clear hb)
  go_upto_region 4 with (go_at_call 26; refine (G2.out _ (H2.out.under (B2.out.mono hB)) (Nat.le_trans hB B2.out.size)).mono ?_; rintro e w3 ⟨rfl, hb⟩; have B3 := Lib.hid (B2.out.trans (hb.mono B2.out.size)); have D3 := Lib.hid (D2.out.under hb D2.out.lt); clear hb)
  obtain ⟨x0, x1⟩ := cellsT2 D3.out
  have lg := D3.out.lt
  go_upto_region 5 with (go_at_call 45; refine (G3.out _ (H3.out.lines.under (B3.out.mono hB)) (Nat.le_trans hB B3.out.size)).mono ?_; rintro e w4 ⟨f3, rfl, hb, e3⟩; have B4 := Lib.hid (B3.out.trans (hb.mono B3.out.size)); have D4 := Lib.hid (D3.out.under hb D3.out.lt); clear hb x0 x1 lg)
  have E3 := Lib.hid e3
  clear e3 B0 B1 B2 B3 D0 D1 D2 D3
  cases f1
  · go_wp2_with fail
    go_ret
    exact ⟨rfl, B4.out⟩
  cases f2
  · go_wp2_with fail
    go_ret
    exact ⟨rfl, B4.out⟩
  cases f3
  · go_wp2_with fail
    go_ret
    exact ⟨rfl, B4.out⟩
  obtain ⟨n1, v1, r1, C1⟩ := of_c' A A' c c' B x y E1.out E2.out
  have K1 := Lib.hid C1
  have R1 := Lib.hid r1
  clear C1
  have hv1 : v1 = .nilIface ∨ v1 = .iface 70 (.int .i64 1) := ofR_err R1.out
  clear r1
  rcases hv1 with rfl | rfl
  rotate_left
  · go_wp2_with (go_at_call 42; refine (K1.out _ (H1.out.under (B4.out.mono hB)) (H2.out.under (B4.out.mono hB)) (Nat.le_trans hB B4.out.size)).mono ?_; rintro e w5 ⟨rfl, hb⟩; have B5 := Lib.hid (B4.out.trans (hb.mono B4.out.size)); have D5 := Lib.hid (D4.out.under hb D4.out.lt); clear hb)
    go_ret
    exact ⟨rfl, B5.out⟩
  by_cases hn : n1 = 1
  rotate_left
  · go_wp2_with (go_at_call 42; refine (K1.out _ (H1.out.under (B4.out.mono hB)) (H2.out.under (B4.out.mono hB)) (Nat.le_trans hB B4.out.size)).mono ?_; rintro e w5 ⟨rfl, hb⟩; have B5 := Lib.hid (B4.out.trans (hb.mono B4.out.size)); have D5 := Lib.hid (D4.out.under hb D4.out.lt); clear hb)
    go_ret
    exact ⟨rfl, B5.out⟩
  subst hn
  obtain ⟨hf, h1⟩ := ofR_yes R1.out
  have HAL := Lib.hid (alike_law (u := u) hf (of_one.1 h1.symm))
  have M1 := fun W (hb : Below w.heap.size w W) => usesCheck_c u x ia ic la lc A c B W ((H3.out.under (hb.mono hB)).few (E3.out rfl)) (envI_few (H1.out.under (hb.mono hB)) HC.out.1 E1.out) (Nat.le_trans hB hb.size)
  have M2 := fun W (hb : Below w.heap.size w W) => usesCheck_c u y ia ic la lc A' c' B W ((H3.out.under (hb.mono hB)).few (E3.out rfl)) (envI_few (H2.out.under (hb.mono hB)) HC.out.2 E2.out) (Nat.le_trans hB hb.size)
  have N1 := Lib.hid M1
  have N2 := Lib.hid M2
  clear M1 M2 hf h1
  go_upto_region 10 with (go_at_call 42; refine (K1.out _ (H1.out.under (B4.out.mono hB)) (H2.out.under (B4.out.mono hB)) (Nat.le_trans hB B4.out.size)).mono ?_; rintro e w5 ⟨rfl, hb⟩; have B5 := Lib.hid (B4.out.trans (hb.mono B4.out.size)); have D5 := Lib.hid (D4.out.under hb D4.out.lt); clear hb)
  obtain ⟨x0, x1⟩ := cellsT2 D5.out
  have lg := D5.out.lt
  go_upto_region 11 with (go_at_call 44; refine (N1.out _ B5.out).mono ?_; rintro e w6 ⟨v1, rfl, hb, q1⟩; have B6 := Lib.hid (B5.out.trans (hb.mono B5.out.size)); have D6 := Lib.hid (D5.out.under hb D5.out.lt); clear hb x0 x1 lg)
  have Q1 := Lib.hid q1
  clear q1
  obtain ⟨x0, x1⟩ := cellsT2 D6.out
  have lg := D6.out.lt
  go_upto_region 12 with (go_at_call 44; refine (N2.out _ B6.out).mono ?_; rintro e w7 ⟨v2, rfl, hb, q2⟩; have B7 := Lib.hid (B6.out.trans (hb.mono B6.out.size)); have D7 := Lib.hid (D6.out.under hb D6.out.lt); clear hb x0 x1 lg)
  have q1 := Q1.out
  rcases q1 with ⟨rfl, q1⟩ | ⟨⟨T1, p1, rfl⟩, q1⟩
  · rcases q2 with ⟨rfl, q2⟩ | ⟨-, q2⟩
    · clear q1 q2
      go_quiet (fail)
      go_wp2_with fail
      go_ret
      exact ⟨rfl, below_drewN B7.out _⟩
    · exact absurd (HAL.out.1 q1) q2
  · rcases q2 with ⟨rfl, q2⟩ | ⟨⟨T2, p2, rfl⟩, q2⟩
    · exact absurd (HAL.out.2 q2) q1
    · clear q1 q2
      go_quiet (fail)
      go_wp2_with fail
      go_ret
      exact ⟨rfl, below_drewN B7.out _⟩
end Go.Proofs.YtjeldfipipkfiaaGreatDoor
