/- The statement IfaceTurns: for any module, package, major, interfaces and number the law returns true and leaves its arguments as they were; no condition but the row's own (no ring among the inputs). -/
import Derived.Test.YtjeldfipipkfiaaGreatRows
import Derived.Test.YtjeldfipipkfiaaGreatLawIT
import Derived.Test.YtjeldfipipkfiaaGreatOpenAll
import Derived.ShutString
namespace Go.Proofs.YtjeldfipipkfiaaGreat
open Go.ChangeShapes Go.WideShapes Go.ChangeAt Go.RowKit
open Go.ChangeMaps (open_string shut_string)
theorem own : ownKnob Tryz.prog.godebug = none := by kernel_rfl
theorem laidOut : laidOutB Tryz.prog = true := by kernel_rfl
set_option maxRecDepth 100000 in
theorem turns_lifted (os : Os) (started : os.Started) (H : Type) (enc : TypeId × Value → H) :
    ReturnsInHanded {} Tryz.checked os 3 .any (Rows.ifaceTurnsSpec.pre6 enc Tryz.prog Tryz.f3 Rows.ifaceTurnsRow.domain false) (Rows.ifaceTurnsSpec.post enc Tryz.prog Tryz.f3 false true false false) := by
  refine returnsInHanded_of_change (C := Tryz.checked) own started (by kernel_rfl) Tryz.func3
    (ChangeSpec.witness6 (enc := enc) (C := Tryz.checked) false ⟨#[], #[.agg #[.string ByteArray.empty, .slice none 0 0, .slice none 0 0], .string ByteArray.empty, .int .i64 0, .slice none 0 0, .int .i64 0], []⟩ 8 (by kernel_rfl) (by kernel_rfl) (by kernel_rfl) (by kernel_rfl)) ?_
  intro W base args ds gs before hval0 hW hcnd _
  have hval : ∀ (j : Nat) t v, Tryz.f3.params[j]? = some t → args[j]? = some v → Value.okWide Tryz.prog W .any base t v := hval0
  have hW' := hW
  obtain ⟨p, q, hA0, hV, rfl, hfz, hnd⟩ := hW
  have hA : DataW.TrodAll enc Tryz.prog W 0 (fun _ => true) true Tryz.f3.params.toList args.toList ds p := hA0
  rw [Tryz.params3] at hA hval
  obtain ⟨v0, vs0, d0, ds0, p0, q0, hargs, rfl, rfl, h0, r0⟩ := trodAll_cons hA
  obtain ⟨v1, vs1, d1, ds1, p1, q1, rfl, rfl, rfl, h1, r1⟩ := trodAll_cons r0
  obtain ⟨v2, vs2, d2, ds2, p2, q2, rfl, rfl, rfl, h2, r2⟩ := trodAll_cons r1
  obtain ⟨v3, vs3, d3, ds3, p3, q3, rfl, rfl, rfl, h3, r3⟩ := trodAll_cons r2
  obtain ⟨v4, vs4, d4, ds4, p4, q4, rfl, rfl, rfl, h4, r4⟩ := trodAll_cons r3
  obtain ⟨rfl, rfl, rfl⟩ := trodAll_nil r4
  obtain rfl : args = #[v0, v1, v2, v3, v4] := by cases args; simp_all
  obtain ⟨rfl, rfl⟩ := trodVars_none hV
  have g0 := h0
  have g1 := h1
  have g2 := h2
  have g3 := h3
  have g4 := h4
  obtain ⟨m, ia, ic, da, dc, rfl, hm⟩ := open_mdl (hval 0 25 v0 rfl rfl) h0
  obtain ⟨pkg, rfl, rfl, rfl, hs1⟩ := open_string Tryz.underlying9 (hval 1 9 v1 rfl rfl) h1
  obtain ⟨j, rfl, rfl, rfl, hwf2⟩ := open_int Tryz.underlying3 (hval 2 3 v2 rfl rfl) h2
  have hb2 := bounds_i64 hwf2
  obtain ⟨ea, ec, env, rfl, hlc, hcm, he⟩ := open_ifs (hval 3 26 v3 rfl rfl) h3
  obtain ⟨at_, rfl, rfl, rfl, hwf4⟩ := open_int Tryz.underlying3 (hval 4 3 v4 rfl rfl) h4
  have hb4 := bounds_i64 hwf4
  have hlt := hW'.lt
  clear hA0 hval0
  refine (ifaceTurns_c m ia ic da dc pkg j env ea ec at_ W hm hs1 hb2.1 hb2.2 he hlc (Nat.le_trans hlc hcm) hb4.1 hb4.2).mono fun e W' ⟨he, bel⟩ => ?_
  subst he
  have a0 := Below.trod laidOut (by kernel_rfl) (of_decide_eq_true (by kernel_rfl)) g0 bel (fun x hx => by first | exact absurd hx List.not_mem_nil | exact hlt x (by simp [hx]))
  have a1 := Below.trod laidOut (by kernel_rfl) (of_decide_eq_true (by kernel_rfl)) g1 bel (fun x hx => by first | exact absurd hx List.not_mem_nil | exact hlt x (by simp [hx]))
  have a2 := Below.trod laidOut (by kernel_rfl) (of_decide_eq_true (by kernel_rfl)) g2 bel (fun x hx => by first | exact absurd hx List.not_mem_nil | exact hlt x (by simp [hx]))
  have a3 := Below.trod laidOut (by kernel_rfl) (of_decide_eq_true (by kernel_rfl)) g3 bel (fun x hx => by first | exact absurd hx List.not_mem_nil | exact hlt x (by simp [hx]))
  have a4 := Below.trod laidOut (by kernel_rfl) (of_decide_eq_true (by kernel_rfl)) g4 bel (fun x hx => by first | exact absurd hx List.not_mem_nil | exact hlt x (by simp [hx]))
  exact ⟨_, rfl, _, _, _, [], _, [], hW', trodAll_mk1 (shut_bool Tryz.underlying4 _), (trodAll_cons_mk a0 (trodAll_cons_mk a1 (trodAll_cons_mk a2 (trodAll_cons_mk a3 (trodAll_cons_mk a4 trodAll_mk0))))), rfl, bel.frame _, fun h => by cases h⟩
theorem turns_holds : Rows.IfaceTurnsSaid :=
  OpenClaim.holds_of_wide 3 Tryz.f3 rfl rfl rfl rfl rfl rfl rfl ⟨rfl, rfl, rfl, rfl, rfl⟩ rfl rfl rfl rfl rfl (by kernel_rfl) Tryz.func3 (by kernel_rfl)
    (of_decide_eq_true (by kernel_rfl)) (by unfold Func.isWrapper; first | (rw [if_pos (by decide +kernel)]; kernel_rfl) | (rw [if_neg (by decide +kernel)]; exact ⟨rfl, rfl⟩))
    (fun os started H enc _ => turns_lifted os started H enc)
#print axioms turns_holds
end Go.Proofs.YtjeldfipipkfiaaGreat
