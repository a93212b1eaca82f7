/- The statement BumpSafe: for any rows of interfaces and any client the law returns true and leaves its arguments as they were; no condition but the row's own (no ring among the inputs). -/
import Derived.Test.YtjeldfipipkfiaaGreatRows
import Derived.Test.YtjeldfipipkfiaaGreatLawBS
import Derived.Test.YtjeldfipipkfiaaGreatOpenAll
namespace Go.Proofs.YtjeldfipipkfiaaGreat
open Go.ChangeShapes Go.WideShapes Go.ChangeAt Go.RowKit
theorem own : ownKnob Tryz.prog.godebug = none := by kernel_rfl
theorem laidOut : laidOutB Tryz.prog = true := by kernel_rfl
set_option maxRecDepth 100000 in
theorem safe_lifted (os : Os) (started : os.Started) (H : Type) (enc : TypeId × Value → H) :
    ReturnsInHanded {} Tryz.checked os 5 .any (Rows.bumpSafeSpec.pre6 enc Tryz.prog Tryz.f5 Rows.bumpSafeRow.domain false) (Rows.bumpSafeSpec.post enc Tryz.prog Tryz.f5 false true false false) := by
  refine returnsInHanded_of_change (C := Tryz.checked) own started (by kernel_rfl) Tryz.func5
    (ChangeSpec.witness6 (enc := enc) (C := Tryz.checked) false ⟨#[], #[.slice none 0 0, .slice none 0 0, .slice none 0 0, .agg #[.slice none 0 0, .slice none 0 0]], []⟩ 8 (by kernel_rfl) (by kernel_rfl) (by kernel_rfl) (by kernel_rfl)) ?_
  intro W base args ds gs before hval0 hW hcnd _
  have hval : ∀ (j : Nat) t v, Tryz.f5.params[j]? = some t → args[j]? = some v → Value.okWide Tryz.prog W .any base t v := hval0
  have hW' := hW
  obtain ⟨p, q, hA0, hV, rfl, hfz, hnd⟩ := hW
  have hA : DataW.TrodAll enc Tryz.prog W 0 (fun _ => true) true Tryz.f5.params.toList args.toList ds p := hA0
  rw [Tryz.params5] at hA hval
  obtain ⟨v0, vs0, d0, ds0, p0, q0, hargs, rfl, rfl, h0, r0⟩ := trodAll_cons hA
  obtain ⟨v1, vs1, d1, ds1, p1, q1, rfl, rfl, rfl, h1, r1⟩ := trodAll_cons r0
  obtain ⟨v2, vs2, d2, ds2, p2, q2, rfl, rfl, rfl, h2, r2⟩ := trodAll_cons r1
  obtain ⟨v3, vs3, d3, ds3, p3, q3, rfl, rfl, rfl, h3, r3⟩ := trodAll_cons r2
  obtain ⟨rfl, rfl, rfl⟩ := trodAll_nil r3
  obtain rfl : args = #[v0, v1, v2, v3] := by cases args; simp_all
  obtain ⟨rfl, rfl⟩ := trodVars_none hV
  obtain ⟨a0, c0, l0, rfl, hlc0, hcm0, ht0⟩ := open_ifs (hval 0 26 v0 rfl rfl) h0
  obtain ⟨a1, c1, l1, rfl, hlc1, hcm1, ht1⟩ := open_ifs (hval 1 26 v1 rfl rfl) h1
  obtain ⟨a2, c2, l2, rfl, hlc2, hcm2, ht2⟩ := open_ifs (hval 2 26 v2 rfl rfl) h2
  obtain ⟨u, ia, ic, la, lc, rfl, hu⟩ := open_uses (hval 3 44 v3 rfl rfl) h3
  have hlt := hW'.lt
  clear hA0 hval0
  refine (bsafe_c a0 a1 a2 ia la c0 c1 c2 ic lc W.heap.size l0 l1 l2 u W ht0 ht1 ht2 hu (Nat.le_refl _) (Nat.le_trans hlc0 hcm0) (Nat.le_trans hlc1 hcm1) (Nat.le_trans hlc2 hcm2) hlc0 hlc1 hlc2).mono fun e W' ⟨he, bel⟩ => ?_
  subst he
  have b0 := Below.trod laidOut (by kernel_rfl) (of_decide_eq_true (by kernel_rfl)) h0 bel (fun x hx => hlt x (by simp [hx]))
  have b1 := Below.trod laidOut (by kernel_rfl) (of_decide_eq_true (by kernel_rfl)) h1 bel (fun x hx => hlt x (by simp [hx]))
  have b2 := Below.trod laidOut (by kernel_rfl) (of_decide_eq_true (by kernel_rfl)) h2 bel (fun x hx => hlt x (by simp [hx]))
  have b3 := Below.trod laidOut (by kernel_rfl) (of_decide_eq_true (by kernel_rfl)) h3 bel (fun x hx => hlt x (by simp [hx]))
  exact ⟨_, rfl, _, _, _, [], _, [], hW', trodAll_mk1 (shut_bool Tryz.underlying4 _), (trodAll_cons_mk b0 (trodAll_cons_mk b1 (trodAll_cons_mk b2 (trodAll_cons_mk b3 trodAll_mk0)))), rfl, bel.frame _, fun h => by cases h⟩
theorem safe_holds : Rows.BumpSafeSaid :=
  OpenClaim.holds_of_wide 5 Tryz.f5 rfl rfl rfl rfl rfl rfl rfl ⟨rfl, rfl, rfl, rfl, rfl⟩ rfl rfl rfl rfl rfl (by kernel_rfl) Tryz.func5 (by kernel_rfl)
    (of_decide_eq_true (by kernel_rfl)) (by unfold Func.isWrapper; first | (rw [if_pos (by decide +kernel)]; kernel_rfl) | (rw [if_neg (by decide +kernel)]; exact ⟨rfl, rfl⟩))
    (fun os started H enc _ => safe_lifted os started H enc)
#print axioms safe_holds
end Go.Proofs.YtjeldfipipkfiaaGreat
