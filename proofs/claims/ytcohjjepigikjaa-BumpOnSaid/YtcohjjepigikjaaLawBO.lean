/- merlonlaw12.BumpOn returns true. -/
import Derived.Test.YtcohjjepigikjaaUpB
import Derived.Test.YtcohjjepigikjaaBumpP
import Derived.Test.YtcohjjepigikjaaFewC
namespace Go.Proofs.Ytcohjjepigikjaa
open Go.RowKit
set_option linter.unusedSimpArgs false
set_option linter.unusedVariables false
/-- what bump.Of answers: the number, the error -/
def OfR (a b : List If) (n : Int) (ev : Value) : Prop := (fairB a b = true ∧ n = ofF (chgF a b) ∧ ev = .nilIface) ∨ (fairB a b = false ∧ n = 0 ∧ ev = .iface 33 (.int .i64 1))
theorem of_c' (A A' : Option Addr) (c c' B : Nat) (a b : List If) (hfa : FewI a = true) (hfb : FewI b = true) : ∃ n ev, OfR a b n ev ∧ ∀ w, IfsAt w B A a → IfsAt w B A' b → B ≤ w.heap.size →
    Calls Try.prog 8 #[.slice A a.length c, .slice A' b.length c'] w fun e w' => e = .returned (.tuple #[.int .i64 n, ev]) ∧ Below w.heap.size w w' := by
  rw [FewI, Bool.and_eq_true, decide_eq_true_eq] at hfa hfb
  obtain ⟨la, hfa⟩ := hfa
  obtain ⟨lb, hfb⟩ := hfb
  cases hf : fairB a b
  · exact ⟨0, _, .inr ⟨hf, rfl, rfl⟩, fun w h1 h2 hB => ofNo_c A A' c c' B a b w h1 h2 hB (by omega) (by omega) hf⟩
  · exact ⟨_, _, .inl ⟨hf, rfl, rfl⟩, fun w h1 h2 hB => ofYes_c A A' c c' B a b w h1 h2 hB (by omega) (by omega) hf hfa hfb⟩
theorem ofR_err {a b : List If} {n : Int} {ev : Value} (h : OfR a b n ev) : ev = .nilIface ∨ ev = .iface 33 (.int .i64 1) := by
  rcases h with ⟨-, -, h⟩ | ⟨-, -, h⟩
  · exact .inl h
  · exact .inr h
theorem fair_may {a b : List If} (h : fairB a b = true) : mayP a = true ∧ mayP b = true := by
  rw [fairB, Bool.and_eq_true, Bool.and_eq_true] at h
  exact ⟨h.1, h.2.1⟩
set_option maxRecDepth 100000 in
set_option maxHeartbeats 8000000 in
theorem on_c (A A' A2 : Option Addr) (c c' c2 B : Nat) (x y z : List If) (w : World) (h1 : IfsAt w B A x) (h2 : IfsAt w B A' y) (h3 : IfsAt w B A2 z) (hB : B ≤ w.heap.size) (hl : x.length ≤ maxLen) (hl' : y.length ≤ maxLen) (hl2 : z.length ≤ maxLen) :
    Calls Try.prog 4 #[.slice A x.length c, .slice A' y.length c', .slice A2 z.length c2] w fun e w' => e = .returned (.bool true) ∧ Below w.heap.size w w' := by
  have H1 := Lib.hid h1
  have H2 := Lib.hid h2
  have H3 := Lib.hid h3
  have F1 := fun w h hB => FewI_c x A c B w h hB hl
  have F2 := fun w h hB => FewI_c y A' c' B w h hB hl'
  have F3 := fun w h hB => FewI_c z A2 c2 B w h hB hl2
  obtain ⟨f1, e1⟩ : ∃ f, FewI x = f := ⟨_, rfl⟩
  obtain ⟨f2, e2⟩ : ∃ f, FewI y = f := ⟨_, rfl⟩
  obtain ⟨f3, e3⟩ : ∃ f, FewI z = f := ⟨_, rfl⟩
  simp only [e1] at F1
  simp only [e2] at F2
  simp only [e3] at F3
  have G1 := Lib.hid F1
  have G2 := Lib.hid F2
  have G3 := Lib.hid F3
  have E1 := Lib.hid e1
  have E2 := Lib.hid e2
  have E3 := Lib.hid e3
  clear h1 h2 h3 F1 F2 F3 e1 e2 e3 hl hl' hl2
  have ee := eq_err
  have en := eq_errnil
  have ne := neq_errnil
  go_enter Try.func4, Try.ntmps4
  go_upto_region 2 with (go_at_call 5; refine (upB_c w).mono ?_; rintro e w1 ⟨rfl, hb⟩; have B1 := Lib.hid hb; clear hb)
  go_upto_region 3 with (go_at_call 6; refine (G1.out _ (H1.out.under (B1.out.mono hB)) (Nat.le_trans hB B1.out.size)).mono ?_; rintro e w2 ⟨rfl, hb⟩; have B2 := Lib.hid (B1.out.trans (hb.mono B1.out.size)); clear hb)
  go_upto_region 4 with (go_at_call 6; refine (G2.out _ (H2.out.under (B2.out.mono hB)) (Nat.le_trans hB B2.out.size)).mono ?_; rintro e w3 ⟨rfl, hb⟩; have B3 := Lib.hid (B2.out.trans (hb.mono B2.out.size)); clear hb)
  go_upto_region 5 with (go_at_call 6; refine (G3.out _ (H3.out.under (B3.out.mono hB)) (Nat.le_trans hB B3.out.size)).mono ?_; rintro e w4 ⟨rfl, hb⟩; have B4 := Lib.hid (B3.out.trans (hb.mono B3.out.size)); clear hb)
  clear B1 B2 B3
  cases f1
  · go_wp2_with fail
    go_ret
    exact ⟨rfl, B4.out⟩
  cases f2
  · go_wp2_with fail
    go_ret
    exact ⟨rfl, B4.out⟩
  cases f3
  · go_wp2_with fail
    go_ret
    exact ⟨rfl, B4.out⟩
  obtain ⟨n1, v1, r1, C1⟩ := of_c' A A' c c' B x y E1.out E2.out
  obtain ⟨n2, v2, r2, C2⟩ := of_c' A' A2 c' c2 B y z E2.out E3.out
  obtain ⟨n3, v3, r3, C3⟩ := of_c' A A2 c c2 B x z E1.out E3.out
  obtain ⟨n4, v4, r4, C4⟩ := of_c' A A c c B x x E1.out E1.out
  have K1 := Lib.hid C1
  have K2 := Lib.hid C2
  have K3 := Lib.hid C3
  have K4 := Lib.hid C4
  have R1 := Lib.hid r1
  have R2 := Lib.hid r2
  have R3 := Lib.hid r3
  have R4 := Lib.hid r4
  clear C1 C2 C3 C4 r1 r2 r3 r4 E1 E2 E3 G1 G2 G3
  go_upto_region 8 with (go_at_call 8; refine (K1.out _ (H1.out.under (B4.out.mono hB)) (H2.out.under (B4.out.mono hB)) (Nat.le_trans hB B4.out.size)).mono ?_; rintro e w5 ⟨rfl, hb⟩; have B5 := Lib.hid (B4.out.trans (hb.mono B4.out.size)); clear hb)
  go_upto_region 9 with (go_at_call 8; refine (K2.out _ (H2.out.under (B5.out.mono hB)) (H3.out.under (B5.out.mono hB)) (Nat.le_trans hB B5.out.size)).mono ?_; rintro e w6 ⟨rfl, hb⟩; have B6 := Lib.hid (B5.out.trans (hb.mono B5.out.size)); clear hb)
  go_upto_region 10 with (go_at_call 8; refine (K3.out _ (H1.out.under (B6.out.mono hB)) (H3.out.under (B6.out.mono hB)) (Nat.le_trans hB B6.out.size)).mono ?_; rintro e w7 ⟨rfl, hb⟩; have B7 := Lib.hid (B6.out.trans (hb.mono B6.out.size)); clear hb)
  go_upto_region 11 with (go_at_call 8; refine (K4.out _ (H1.out.under (B7.out.mono hB)) (H1.out.under (B7.out.mono hB)) (Nat.le_trans hB B7.out.size)).mono ?_; rintro e w8 ⟨rfl, hb⟩; have B8 := Lib.hid (B7.out.trans (hb.mono B7.out.size)); clear hb)
  clear K1 K2 K3 K4 B4 B5 B6 B7 H1 H2 H3
  have hv4 : v4 = .nilIface ∧ n4 = 1 ∨ v4 = .iface 33 (.int .i64 1) := by
    rcases R4.out with ⟨hf, hn, hv⟩ | ⟨-, -, hv⟩
    · exact .inl ⟨hv, hn.trans (bump_self (fair_may hf).1)⟩
    · exact .inr hv
  have hv1 := ofR_err R1.out
  have hv2 := ofR_err R2.out
  have hv3 := ofR_err R3.out
  have hle : v1 = .nilIface → v2 = .nilIface → v3 = .nilIface → n3 ≤ n1 ∨ n3 ≤ n2 := by
    intro g1 g2 g3
    rcases R1.out with ⟨p1, p2, -⟩ | ⟨-, -, e⟩
    · rcases R2.out with ⟨q1, q2, -⟩ | ⟨-, -, e⟩
      · rcases R3.out with ⟨s1, s2, -⟩ | ⟨-, -, e⟩
        · rw [p2, q2, s2]
          exact bump_trans (fair_may p1).1 (fair_may p1).2 (fair_may q1).2
        · rw [g3] at e; cases e
      · rw [g2] at e; cases e
    · rw [g1] at e; cases e
  have HLE := Lib.hid hle
  clear hle
  rcases hv4 with ⟨rfl, rfl⟩ | rfl
  all_goals
    rcases hv1 with rfl | rfl
    rotate_left
    · go_wp2_with fail
      go_ret
      exact ⟨rfl, B8.out⟩
    rcases hv2 with rfl | rfl
    rotate_left
    · go_wp2_with fail
      go_ret
      exact ⟨rfl, B8.out⟩
    rcases hv3 with rfl | rfl
    rotate_left
    · go_wp2_with fail
      go_ret
      exact ⟨rfl, B8.out⟩
    by_cases hy : y.length = 0
    · have hz : ((y.length : Int) == 0) = true := by simp [hy]
      go_wp2_with fail
      go_ret
      exact ⟨rfl, B8.out⟩
    have hz : ((y.length : Int) == 0) = false := by simp; exact fun e => hy (by rw [e]; rfl)
    clear hy
    have h3 := HLE.out rfl rfl rfl
    by_cases hgt : n2 > n1
    · have h4 : n3 ≤ n2 := by omega
      clear h3
      go_wp2_with fail
      go_ret
      exact ⟨rfl, B8.out⟩
    · have h4 : n3 ≤ n1 := by omega
      clear h3
      go_wp2_with fail
      go_ret
      exact ⟨rfl, B8.out⟩
end Go.Proofs.Ytcohjjepigikjaa
