/- merlonlaw13.WitnessExact returns true. -/
import Derived.Test.YtjeldfipipkfiaaGreatDoorLawWA
import Derived.Test.YtjeldfipipkfiaaGreatDoorWitX
namespace Go.Proofs.YtjeldfipipkfiaaGreatDoor
open Go.RowKit
set_option linter.unusedSimpArgs false
set_option linter.unusedVariables false
def BrkR (a b : List If) (w' : World) (ia : Option Addr) (il ic : Nat) (la : Option Addr) (ll lc : Nat) (q : Bool) (ev : Value) : Prop :=
  (fairB a b = false ∧ q = false ∧ ev = .iface 70 (.int .i64 1)) ∨
  (fairB a b = true ∧ ev = .nilIface ∧ ((brkF a b = none ∧ q = false) ∨ ∃ k, brkF a b = some k ∧ q = true ∧ il = (useF k).imps.length ∧ ll = (useF k).lines.length ∧ UsM w' w'.heap.size (useF k) ia ic la lc))
theorem brk_none {a b : List If} : brkF a b = none ↔ bigC (chgF a b) = none := by rw [brkF, Option.map_eq_none_iff]
theorem brk_c' (A A' : Option Addr) (c c' B : Nat) (a b : List If) (w : World) (h1 : IfsAt w B A a) (h2 : IfsAt w B A' b) (hB : B ≤ w.heap.size) (hfa : FewI a = true) (hfb : FewI b = true) :
    Calls Tryz.prog 43 #[.slice A a.length c, .slice A' b.length c'] w fun e w' => ∃ ia il ic la ll lc q ev, e = .returned (.tuple #[.agg #[.slice ia il ic, .slice la ll lc], .bool q, ev]) ∧ Below w.heap.size w w' ∧ BrkR a b w' ia il ic la ll lc q ev := by
  rw [FewI, Bool.and_eq_true, decide_eq_true_eq] at hfa hfb
  obtain ⟨la, hfa⟩ := hfa
  obtain ⟨lb, hfb⟩ := hfb
  cases hf : fairB a b
  · exact (brkNo_c A A' c c' B a b w h1 h2 hB (by omega) (by omega) hf).mono fun e w' h => ⟨_, _, _, _, _, _, _, _, h.1, h.2, .inl ⟨hf, rfl, rfl⟩⟩
  · obtain ⟨ma, mb⟩ := fair_may2 hf
    cases hbig : bigC (chgF a b) with
    | none => exact (brkNone_c A A' c c' B a b w h1 h2 hB (by omega) (by omega) hf hfa hfb hbig).mono fun e w' h => ⟨_, _, _, _, _, _, _, _, h.1, h.2, .inr ⟨hf, rfl, .inl ⟨brk_none.2 hbig, rfl⟩⟩⟩
    | some cc =>
      obtain ⟨-, xx, nn, hxx, hnn, hlk⟩ := big_had hbig
      have hk : brkF a b = some ⟨xx, cc, nn.ty⟩ := by rw [brkF, hbig, Option.map_some, hxx, hlk]; rfl
      refine (brkYes_c A A' c c' B a b cc xx nn w h1 h2 hB (by omega) (by omega) hf hfa hfb hbig hxx hnn (look_plain ma hlk)).mono fun e w' h => ?_
      obtain ⟨⟨v, he, hu⟩, hb⟩ := h
      obtain ⟨b1, b2, hv, hm⟩ := usM_of ma hk hu
      subst hv
      exact ⟨_, _, _, _, _, _, _, _, he, hb, .inr ⟨hf, rfl, .inr ⟨_, hk, rfl, rfl, rfl, hm⟩⟩⟩
theorem usesYes {u : Us} {env : List If} {w w' : World} {e : Ending} (h : UsesRet u env w e w') (hu : UsesOk u env) : e = .returned .nilIface ∧ Below w.heap.size w w' := by
  obtain ⟨v, he, hb, ⟨rfl, -⟩ | ⟨-, h⟩⟩ := h
  · exact ⟨he, hb⟩
  · exact absurd hu h
theorem usesNo {u : Us} {env : List If} {w w' : World} {e : Ending} (h : UsesRet u env w e w') (hu : ¬ UsesOk u env) : ∃ T p, e = .returned (.iface T p) ∧ Below w.heap.size w w' := by
  obtain ⟨v, he, hb, ⟨-, h⟩ | ⟨⟨T, p, rfl⟩, -⟩⟩ := h
  · exact absurd h hu
  · exact ⟨T, p, he, hb⟩
theorem big_none {a b : List If} (h : brkF a b = none) : (bigC (chgF a b)).isSome = false := by rw [brk_none.1 h]; rfl
theorem big_some {a b : List If} {k : Brk} (h : brkF a b = some k) : (bigC (chgF a b)).isSome = true := by
  rw [brkF, Option.map_eq_some_iff] at h
  obtain ⟨c, hc, -⟩ := h
  rw [hc]; rfl
set_option maxRecDepth 100000 in
set_option maxHeartbeats 40000000 in
theorem wexact_c (A A' : Option Addr) (c c' B : Nat) (x y : List If) (w : World) (h1 : IfsAt w B A x) (h2 : IfsAt w B A' y) (hB : B ≤ w.heap.size) (hl : x.length ≤ maxLen) (hl' : y.length ≤ maxLen) (hc : x.length ≤ c) (hc' : y.length ≤ c') :
    Calls Tryz.prog 10 #[.slice A x.length c, .slice A' y.length c'] w fun e w' => e = .returned (.bool true) ∧ Below w.heap.size w w' := by
  have H1 := Lib.hid h1
  have H2 := Lib.hid h2
  have F1 := fun w h hB => FewI_c x A c B w h hB hl
  have F2 := fun w h hB => FewI_c y A' c' B w h hB hl'
  obtain ⟨f1, e1⟩ : ∃ f, FewI x = f := ⟨_, rfl⟩
  obtain ⟨f2, e2⟩ : ∃ f, FewI y = f := ⟨_, rfl⟩
  simp only [e1] at F1
  simp only [e2] at F2
  have G1 := Lib.hid F1
  have G2 := Lib.hid F2
  have E1 := Lib.hid e1
  have E2 := Lib.hid e2
  have HC := Lib.hid (And.intro hc hc')
  clear h1 h2 F1 F2 e1 e2 hl hl' hc hc'
  have en := eq_errnil
  have ne := neq_errnil
  go_enter Tryz.func10, Tryz.ntmps10
  have B0 := Lib.hid (Below.refl w.heap.size w)
  go_upto_region 2 with (go_at_call 41; refine (upW_c _).mono ?_; rintro e w1 ⟨rfl, hb⟩; have B1 := Lib.hid (B0.out.trans (hb.mono B0.out.size)); clear hb)
  go_upto_region 3 with (go_at_call 26; refine (G1.out _ (H1.out.under (B1.out.mono hB)) (Nat.le_trans hB B1.out.size)).mono ?_; rintro e w2 ⟨rfl, hb⟩; have B2 := Lib.hid (B1.out.trans (hb.mono B1.out.size)); clear hb)
  go_upto_region 4 with (go_at_call 26; refine (G2.out _ (H2.out.under (B2.out.mono hB)) (Nat.le_trans hB B2.out.size)).mono ?_; rintro e w3 ⟨rfl, hb⟩; have B3 := Lib.hid (B2.out.trans (hb.mono B2.out.size)); clear hb)
  clear B0 B1 B2
  cases f1
  · go_wp2_with fail
    go_ret
    exact ⟨rfl, B3.out⟩
  cases f2
  · go_wp2_with fail
    go_ret
    exact ⟨rfl, B3.out⟩
  obtain ⟨n1, v1, r1, C1⟩ := of_c' A A' c c' B x y E1.out E2.out
  have K1 := Lib.hid C1
  have R1 := Lib.hid r1
  have K2 := Lib.hid (fun W (hb : Below w.heap.size w W) => brk_c' A A' c c' B x y W (H1.out.under (hb.mono hB)) (H2.out.under (hb.mono hB)) (Nat.le_trans hB hb.size) E1.out E2.out)
  have K3 := Lib.hid (fun W (hb : Below w.heap.size w W) => brk_c' A' A c' c B y x W (H2.out.under (hb.mono hB)) (H1.out.under (hb.mono hB)) (Nat.le_trans hB hb.size) E2.out E1.out)
  clear C1
  go_upto_region 7 with (go_at_call 42; refine (K1.out _ (H1.out.under (B3.out.mono hB)) (H2.out.under (B3.out.mono hB)) (Nat.le_trans hB B3.out.size)).mono ?_; rintro e w4 ⟨rfl, hb⟩; have B4 := Lib.hid (B3.out.trans (hb.mono B3.out.size)); clear hb)
  go_upto_region 8 with (go_at_call 43; refine (K2.out _ B4.out).mono ?_; rintro e w5 ⟨ia, il, ic, la, ll, lc, q, ev, rfl, hb, r2⟩; have R2 := Lib.hid r2; clear r2; have B5 := Lib.hid (B4.out.trans (hb.mono B4.out.size)); clear hb)
  obtain ⟨d1, hb, -⟩ := laidN w5 #[.slice ia il ic, .slice la ll lc] 82
  generalize w5.alloc (.cells #[.slice ia il ic, .slice la ll lc] 82) = w6 at d1 hb ⊢
  have D1 := Lib.hid d1
  have U1 := Lib.hid hb
  have B6 := Lib.hid (B5.out.trans (hb.mono B5.out.size)); clear hb
  clear d1
  go_upto_region 9 with (go_at_call 43; refine (K3.out _ B6.out).mono ?_; rintro e w7 ⟨ja, jl, jc, ka, kl, kc, q2, ev2, rfl, hb, r3⟩; have R3 := Lib.hid r3; clear r3; have D1 := Lib.hid (D1.out.under hb D1.out.lt); have U1 := Lib.hid (U1.out.trans (hb.mono U1.out.size)); have B7 := Lib.hid (B6.out.trans (hb.mono B6.out.size)); clear hb)
  obtain ⟨d2, hb, -⟩ := laidN w7 #[.slice ja jl jc, .slice ka kl kc] 82
  generalize w7.alloc (.cells #[.slice ja jl jc, .slice ka kl kc] 82) = w8 at d2 hb ⊢
  have D2 := Lib.hid d2
  have U2 := Lib.hid hb
  have U1 := Lib.hid (U1.out.trans (hb.mono U1.out.size))
  have D1 := Lib.hid (D1.out.under hb D1.out.lt)
  have B8 := Lib.hid (B7.out.trans (hb.mono B7.out.size)); clear hb
  clear d2 K1 K2 K3 B4 B6 r1
  rcases R2.out with ⟨hf, rfl, rfl⟩ | ⟨hf, rfl, hk⟩
  · obtain ⟨rfl, rfl⟩ : n1 = 0 ∧ v1 = .iface 70 (.int .i64 1) := by
      rcases R1.out with ⟨h, -, -⟩ | ⟨-, h1, h2⟩
      · rw [hf] at h; cases h
      · exact ⟨h1, h2⟩
    rcases R3.out with ⟨hf2, rfl, rfl⟩ | ⟨hf2, -, -⟩
    rotate_left
    · rw [fair_symm hf2] at hf; cases hf
    clear hf hf2
    go_wp2_with fail
    go_ret
    exact ⟨rfl, B8.out⟩
  obtain ⟨hn1, rfl⟩ : n1 = ofF (chgF x y) ∧ v1 = .nilIface := by
    rcases R1.out with ⟨-, h1, h2⟩ | ⟨h, -, -⟩
    · exact ⟨h1, h2⟩
    · rw [hf] at h; cases h
  rw [bump_wit hf] at hn1
  rcases R3.out with ⟨hf2, rfl, rfl⟩ | ⟨hf2, rfl, hk2⟩
  · rw [fair_symm hf] at hf2; cases hf2
  clear R1 R2 R3
  have X1 := Lib.hid ((envI_few (H1.out.under (B5.out.mono hB)) HC.out.1 E1.out).mono (Nat.le_trans hB B5.out.size))
  have X2 := Lib.hid ((envI_few (H2.out.under (B5.out.mono hB)) HC.out.2 E2.out).mono (Nat.le_trans hB B5.out.size))
  have Y1 := Lib.hid ((envI_few (H1.out.under (B7.out.mono hB)) HC.out.1 E1.out).mono (Nat.le_trans hB B7.out.size))
  have Y2 := Lib.hid ((envI_few (H2.out.under (B7.out.mono hB)) HC.out.2 E2.out).mono (Nat.le_trans hB B7.out.size))
  have HF := Lib.hid (And.intro hf hf2)
  clear hf hf2
  have H8 := Lib.hid hn1
  clear hn1
  rcases hk with ⟨hk, rfl⟩ | hk
  · have P1 := Lib.hid (big_none hk)
    clear hk
    rcases hk2 with ⟨hk, rfl⟩ | hk2
    · have P2 := Lib.hid (big_none hk)
      clear hk
      obtain rfl : n1 = 1 := by rw [H8.out, P1.out, P2.out]; rfl
      go_wp2_with fail
      go_ret
      exact ⟨rfl, B8.out⟩
    · obtain ⟨k, hk, rfl, hil, hll, hm⟩ := hk2
      have P2 := Lib.hid (big_some hk)
      have n1r : ∀ W, Below w7.heap.size w7 W → Calls Tryz.prog 44 #[.agg #[.slice ja jl jc, .slice ka kl kc], .slice A' y.length c'] W fun e w' => e = .returned .nilIface ∧ Below W.heap.size W w' := by
        intro W hb
        rw [hil, hll]
        exact (usesCheck_c (useF k) y ja jc ka kc A' c' w7.heap.size W (hm.under hb) (Y2.out.under hb) hb.size).mono fun e w' h => usesYes h (exact_law HF.out.2 hk).1
      have N1 := Lib.hid n1r
      clear n1r
      have n2r : ∀ W, Below w7.heap.size w7 W → Calls Tryz.prog 44 #[.agg #[.slice ja jl jc, .slice ka kl kc], .slice A x.length c] W fun e w' => ∃ T p, e = .returned (.iface T p) ∧ Below W.heap.size W w' := by
        intro W hb
        rw [hil, hll]
        exact (usesCheck_c (useF k) x ja jc ka kc A c w7.heap.size W (hm.under hb) (Y1.out.under hb) hb.size).mono fun e w' h => usesNo h (exact_law HF.out.2 hk).2
      have N2 := Lib.hid n2r
      clear n2r
      clear hk hil hll hm
      obtain rfl : n1 = 2 := by rw [H8.out, P1.out, P2.out]; rfl
      go_upto_region 19 with fail
      obtain ⟨x0, x1⟩ := cellsT2 D2.out
      have lg := D2.out.lt
      go_upto_region 20 with (go_at_call 44; refine (N1.out _ U2.out).mono ?_; rintro e w9 ⟨rfl, hb⟩; clear x0 x1 lg; have D1 := Lib.hid (D1.out.under hb D1.out.lt); have D2 := Lib.hid (D2.out.under hb D2.out.lt); have U1 := Lib.hid (U1.out.trans (hb.mono U1.out.size)); have U2 := Lib.hid (U2.out.trans (hb.mono U2.out.size)); have B9 := Lib.hid (B8.out.trans (hb.mono B8.out.size)); clear hb)
      obtain ⟨x0, x1⟩ := cellsT2 D2.out
      have lg := D2.out.lt
      go_upto_region 21 with (go_at_call 44; refine (N2.out _ U2.out).mono ?_; rintro e w10 ⟨T9, p9, rfl, hb⟩; clear x0 x1 lg; have D1 := Lib.hid (D1.out.under hb D1.out.lt); have D2 := Lib.hid (D2.out.under hb D2.out.lt); have U1 := Lib.hid (U1.out.trans (hb.mono U1.out.size)); have U2 := Lib.hid (U2.out.trans (hb.mono U2.out.size)); have B10 := Lib.hid (B9.out.trans (hb.mono B9.out.size)); clear hb)
      go_wp2_with fail
      go_ret
      exact ⟨rfl, B10.out⟩
  · obtain ⟨k, hk, rfl, hil, hll, hm⟩ := hk
    have P1 := Lib.hid (big_some hk)
    have m1r : ∀ W, Below w5.heap.size w5 W → Calls Tryz.prog 44 #[.agg #[.slice ia il ic, .slice la ll lc], .slice A x.length c] W fun e w' => e = .returned .nilIface ∧ Below W.heap.size W w' := by
      intro W hb
      rw [hil, hll]
      exact (usesCheck_c (useF k) x ia ic la lc A c w5.heap.size W (hm.under hb) (X1.out.under hb) hb.size).mono fun e w' h => usesYes h (exact_law HF.out.1 hk).1
    have M1 := Lib.hid m1r
    clear m1r
    have m2r : ∀ W, Below w5.heap.size w5 W → Calls Tryz.prog 44 #[.agg #[.slice ia il ic, .slice la ll lc], .slice A' y.length c'] W fun e w' => ∃ T p, e = .returned (.iface T p) ∧ Below W.heap.size W w' := by
      intro W hb
      rw [hil, hll]
      exact (usesCheck_c (useF k) y ia ic la lc A' c' w5.heap.size W (hm.under hb) (X2.out.under hb) hb.size).mono fun e w' h => usesNo h (exact_law HF.out.1 hk).2
    have M2 := Lib.hid m2r
    clear m2r
    clear hk hil hll hm
    rcases hk2 with ⟨hk, rfl⟩ | hk2
    · have P2 := Lib.hid (big_none hk)
      clear hk
      obtain rfl : n1 = 3 := by rw [H8.out, P1.out, P2.out]; rfl
      go_upto_region 14 with fail
      obtain ⟨x0, x1⟩ := cellsT2 D1.out
      have lg := D1.out.lt
      go_upto_region 15 with (go_at_call 44; refine (M1.out _ U1.out).mono ?_; rintro e w9 ⟨rfl, hb⟩; clear x0 x1 lg; have D1 := Lib.hid (D1.out.under hb D1.out.lt); have D2 := Lib.hid (D2.out.under hb D2.out.lt); have U1 := Lib.hid (U1.out.trans (hb.mono U1.out.size)); have U2 := Lib.hid (U2.out.trans (hb.mono U2.out.size)); have B9 := Lib.hid (B8.out.trans (hb.mono B8.out.size)); clear hb)
      obtain ⟨x0, x1⟩ := cellsT2 D1.out
      have lg := D1.out.lt
      go_upto_region 16 with (go_at_call 44; refine (M2.out _ U1.out).mono ?_; rintro e w10 ⟨T9, p9, rfl, hb⟩; clear x0 x1 lg; have D1 := Lib.hid (D1.out.under hb D1.out.lt); have D2 := Lib.hid (D2.out.under hb D2.out.lt); have U1 := Lib.hid (U1.out.trans (hb.mono U1.out.size)); have U2 := Lib.hid (U2.out.trans (hb.mono U2.out.size)); have B10 := Lib.hid (B9.out.trans (hb.mono B9.out.size)); clear hb)
      go_wp2_with fail
      go_ret
      exact ⟨rfl, B10.out⟩
    · obtain ⟨k, hk, rfl, hil, hll, hm⟩ := hk2
      have P2 := Lib.hid (big_some hk)
      have n1r : ∀ W, Below w7.heap.size w7 W → Calls Tryz.prog 44 #[.agg #[.slice ja jl jc, .slice ka kl kc], .slice A' y.length c'] W fun e w' => e = .returned .nilIface ∧ Below W.heap.size W w' := by
        intro W hb
        rw [hil, hll]
        exact (usesCheck_c (useF k) y ja jc ka kc A' c' w7.heap.size W (hm.under hb) (Y2.out.under hb) hb.size).mono fun e w' h => usesYes h (exact_law HF.out.2 hk).1
      have N1 := Lib.hid n1r
      clear n1r
      have n2r : ∀ W, Below w7.heap.size w7 W → Calls Tryz.prog 44 #[.agg #[.slice ja jl jc, .slice ka kl kc], .slice A x.length c] W fun e w' => ∃ T p, e = .returned (.iface T p) ∧ Below W.heap.size W w' := by
        intro W hb
        rw [hil, hll]
        exact (usesCheck_c (useF k) x ja jc ka kc A c w7.heap.size W (hm.under hb) (Y1.out.under hb) hb.size).mono fun e w' h => usesNo h (exact_law HF.out.2 hk).2
      have N2 := Lib.hid n2r
      clear n2r
      clear hk hil hll hm
      obtain rfl : n1 = 3 := by rw [H8.out, P1.out, P2.out]; rfl
      go_upto_region 14 with fail
      obtain ⟨x0, x1⟩ := cellsT2 D1.out
      have lg := D1.out.lt
      go_upto_region 15 with (go_at_call 44; refine (M1.out _ U1.out).mono ?_; rintro e w9 ⟨rfl, hb⟩; clear x0 x1 lg; have D1 := Lib.hid (D1.out.under hb D1.out.lt); have D2 := Lib.hid (D2.out.under hb D2.out.lt); have U1 := Lib.hid (U1.out.trans (hb.mono U1.out.size)); have U2 := Lib.hid (U2.out.trans (hb.mono U2.out.size)); have B9 := Lib.hid (B8.out.trans (hb.mono B8.out.size)); clear hb)
      obtain ⟨x0, x1⟩ := cellsT2 D1.out
      have lg := D1.out.lt
      go_upto_region 16 with (go_at_call 44; refine (M2.out _ U1.out).mono ?_; rintro e w10 ⟨T9, p9, rfl, hb⟩; clear x0 x1 lg; have D1 := Lib.hid (D1.out.under hb D1.out.lt); have D2 := Lib.hid (D2.out.under hb D2.out.lt); have U1 := Lib.hid (U1.out.trans (hb.mono U1.out.size)); have U2 := Lib.hid (U2.out.trans (hb.mono U2.out.size)); have B10 := Lib.hid (B9.out.trans (hb.mono B9.out.size)); clear hb)
      go_upto_region 19 with fail
      obtain ⟨x0, x1⟩ := cellsT2 D2.out
      have lg := D2.out.lt
      go_upto_region 20 with (go_at_call 44; refine (N1.out _ U2.out).mono ?_; rintro e w11 ⟨rfl, hb⟩; clear x0 x1 lg; have D1 := Lib.hid (D1.out.under hb D1.out.lt); have D2 := Lib.hid (D2.out.under hb D2.out.lt); have U1 := Lib.hid (U1.out.trans (hb.mono U1.out.size)); have U2 := Lib.hid (U2.out.trans (hb.mono U2.out.size)); have B11 := Lib.hid (B10.out.trans (hb.mono B10.out.size)); clear hb)
      obtain ⟨x0, x1⟩ := cellsT2 D2.out
      have lg := D2.out.lt
      go_upto_region 21 with (go_at_call 44; refine (N2.out _ U2.out).mono ?_; rintro e w12 ⟨T11, p11, rfl, hb⟩; clear x0 x1 lg; have D1 := Lib.hid (D1.out.under hb D1.out.lt); have D2 := Lib.hid (D2.out.under hb D2.out.lt); have U1 := Lib.hid (U1.out.trans (hb.mono U1.out.size)); have U2 := Lib.hid (U2.out.trans (hb.mono U2.out.size)); have B12 := Lib.hid (B11.out.trans (hb.mono B11.out.size)); clear hb)
      go_wp2_with fail
      go_ret
      exact ⟨rfl, B12.out⟩
end Go.Proofs.YtjeldfipipkfiaaGreatDoor
