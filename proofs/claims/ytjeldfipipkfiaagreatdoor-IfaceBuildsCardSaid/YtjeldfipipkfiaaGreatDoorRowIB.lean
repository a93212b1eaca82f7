/- The statement IfaceBuilds: for any module, package, major and interfaces the law returns true and leaves its arguments as they were; the premise: errors.errorType is as the program lays it (the card ties this). -/
import Derived.Test.YtjeldfipipkfiaaGreatDoorRows
import Derived.Test.YtjeldfipipkfiaaGreatDoorCards
import Derived.Test.YtjeldfipipkfiaaGreatDoorTie
import Derived.Test.YtjeldfipipkfiaaGreatDoorLawIB
import Derived.Test.YtjeldfipipkfiaaGreatDoorOpenAll
import Derived.ProofKit
import Derived.OpenShut
import Derived.ShutString
import Derived.ChangeOld
import Derived.Below
import Derived.Deep.Slices
import Derived.Deep.Fields
import Derived.ChangeSame
import Derived.ChangeVars
import Derived.ChangeMaps
import Derived.JoinedOf
import Derived.LaidLaws
import Derived.LaidHandle
import Derived.HandedShaped
import Derived.Lib.LaidTab
import Derived.Stop.LaidErr
import Derived.Stop.Joined
import Derived.Deep.DeepLaidRun
import Derived.Deep.DeepHandedRow
import Derived.SevenTiedAt
namespace Go.Proofs.YtjeldfipipkfiaaGreatDoor
open Go.ChangeShapes Go.WideShapes Go.ChangeAt Go.RowKit
open Go.ChangeMaps (open_string shut_string)
namespace builds
theorem own : ownKnob Tryz.prog.godebug = none := by kernel_rfl
theorem laidOut : laidOutB Tryz.prog = true := by kernel_rfl
def put0 (h : Array Obj) (g : Nat) (cs : Array Value) : Array Obj := h.modify g fun
  | .cells _ t frozen => .cells cs t frozen
  | o => o
noncomputable def laidWorld (os : Os) : World :=
  let w0 := World.holding Tryz.prog os ⟨#[], #[], []⟩
  { w0 with heap := put0 (w0.heap) 0 #[.iface 207 (.agg #[.pointer (some ⟨5, 34, none⟩)])] }
theorem laid_met (os : Os) (args : Array Value) : laidMetH Tryz.prog Rows.ifaceBuildsRow.laid ((laidWorld os).forCall (fun _ _ => 0) ⟨#[], args, []⟩).memory :=
  laidMetH_of_parts (laidMet_nil _ _) (by kernel_rfl)
theorem RL.et : (Tryz.prog).globalNamed "errors.errorType" = some 0 := by kernel_rfl
theorem RL.rt : ((Tryz.prog).cutTypes.find? (·.1 == "internal/reflectlite.rtype")).map (·.2) = some 207 := by kernel_rfl
theorem RL.oneRow : ((List.range (Tryz.prog).types.size).filter fun t => (Tryz.prog).rowNamed t [101, 114, 114, 111, 114]) = [34] := by kernel_rfl
theorem handle_of_laid {W : World} (h : laidMetH Tryz.prog Rows.ifaceBuildsRow.laid W) : HandleE W := by
  have h' : laidMet Tryz.prog [] W ∧ handlesMet Tryz.prog Rows.ifaceBuildsRow.laid W := h
  obtain ⟨name, u, ty, e1, e2, e3, e4, e5⟩ := h'.2 _ (List.mem_singleton.2 rfl)
  have en : name = [101, 114, 114, 111, 114] := (Option.some.inj e1).symm
  subst en
  obtain rfl := Option.some.inj (RL.rt.symm.trans e2)
  have hm : ty ∈ (List.range (Tryz.prog).types.size).filter fun t => (Tryz.prog).rowNamed t [101, 114, 114, 111, 114] := List.mem_filter.2 ⟨List.mem_range.2 e3, e4⟩
  rw [RL.oneRow] at hm
  obtain rfl := List.mem_singleton.1 hm
  have hh : typeHandle Tryz.prog 34 = .pointer (some ⟨5, 34, none⟩) := by kernel_rfl
  rw [hh] at e5
  unfold HandleE
  simpa using World.var?_cell RL.et e5 0
theorem reads (os : Os) {H : Type} (enc : TypeId × Value → H) : ∃ places, DataW.whole enc Tryz.prog ((laidWorld os).forCall (fun _ _ => 0) ⟨#[], #[.agg #[.string ByteArray.empty, .slice none 0 0, .slice none 0 0], .string ByteArray.empty, .int .i64 0, .slice none 0 0], []⟩).memory Tryz.f9.params.toList Rows.ifaceBuildsSpec.vars false (#[.agg #[.string ByteArray.empty, .slice none 0 0, .slice none 0 0], .string ByteArray.empty, .int .i64 0, .slice none 0 0] : Array Value).toList 8 = some ([.agg [.lit (.string []), .nil, .nil], .lit (.string []), .lit (.int .i64 0), .nil], [], places) :=
  ⟨[], by kernel_rfl⟩
set_option maxRecDepth 100000 in
theorem lifted (os : Os) (started : os.Started) (H : Type) (enc : TypeId × Value → H) (F : Stop.Interp) :
    ReturnsInHanded {} Tryz.checked os 9 .any ((OpenSpec.ofChange Rows.ifaceBuildsSpec).preRow enc Tryz.prog Tryz.f9 Rows.ifaceBuildsRow.domain false Rows.ifaceBuildsRow.laid) (((OpenSpec.ofChange Rows.ifaceBuildsSpec).at F).post enc Tryz.prog Tryz.f9 false true false false) := by
  obtain ⟨places, hx⟩ := reads os enc
  refine returnsInHanded_of_row (C := Tryz.checked) (s := (OpenSpec.ofChange Rows.ifaceBuildsSpec)) own started (by kernel_rfl) Tryz.func9
    (witness_row_at (enc := enc) (C := Tryz.checked) false (laidWorld os) #[.agg #[.string ByteArray.empty, .slice none 0 0, .slice none 0 0], .string ByteArray.empty, .int .i64 0, .slice none 0 0] rfl (by kernel_rfl) (by kernel_rfl) (by kernel_rfl)
      (OpenSpec.preRow_of_cond 8 hx (by kernel_rfl) (fun k hk => by cases hk) (by kernel_rfl) (laid_met os _))) ?_
  intro W base args ds gs before hval0 hW _ hcond _ hL hsh _
  have hval : ∀ (j : Nat) t v, Tryz.f9.params[j]? = some t → args[j]? = some v → Value.okWide Tryz.prog W .any base t v := hval0
  have hW' := hW
  obtain ⟨p, q, hA0, hV, rfl, hfz, hnd⟩ := hW
  have hA : DataW.TrodAll enc Tryz.prog W 0 (fun _ => true) true Tryz.f9.params.toList args.toList ds p := hA0
  rw [Tryz.params9] at hA hval
  obtain ⟨v0, vs0, d0, ds0, p0, q0, hargs, rfl, rfl, h0, r0⟩ := trodAll_cons hA
  obtain ⟨v1, vs1, d1, ds1, p1, q1, rfl, rfl, rfl, h1, r1⟩ := trodAll_cons r0
  obtain ⟨v2, vs2, d2, ds2, p2, q2, rfl, rfl, rfl, h2, r2⟩ := trodAll_cons r1
  obtain ⟨v3, vs3, d3, ds3, p3, q3, rfl, rfl, rfl, h3, r3⟩ := trodAll_cons r2
  obtain ⟨rfl, rfl, rfl⟩ := trodAll_nil r3
  obtain rfl : args = #[v0, v1, v2, v3] := by cases args; simp_all
  obtain ⟨rfl, rfl⟩ := trodVars_none hV
  have g0 := h0
  have g1 := h1
  have g2 := h2
  have g3 := h3
  obtain ⟨m, ia, ic, da, dc, rfl, hm⟩ := open_mdl (hval 0 25 v0 rfl rfl) h0
  obtain ⟨pkg, rfl, rfl, rfl, hs1⟩ := open_string Tryz.underlying9 (hval 1 9 v1 rfl rfl) h1
  obtain ⟨j, rfl, rfl, rfl, hwf2⟩ := open_int Tryz.underlying3 (hval 2 3 v2 rfl rfl) h2
  have hb2 := bounds_i64 hwf2
  obtain ⟨ea, ec, env, rfl, hlc, hcm, he⟩ := open_ifs (hval 3 47 v3 rfl rfl) h3
  have hlt := hW'.lt
  clear hA0 hval0
  refine (ifaceBuilds_c m ia ic da dc pkg j env ea ec W hm hs1 hb2.1 hb2.2 he hlc (Nat.le_trans hlc hcm) (handle_of_laid hL)).mono fun e W' ⟨he, bel⟩ => ?_
  subst he
  have a0 := Below.trod laidOut (by kernel_rfl) (of_decide_eq_true (by kernel_rfl)) g0 bel (fun x hx => by first | exact absurd hx List.not_mem_nil | exact hlt x (by simp [hx]))
  have a1 := Below.trod laidOut (by kernel_rfl) (of_decide_eq_true (by kernel_rfl)) g1 bel (fun x hx => by first | exact absurd hx List.not_mem_nil | exact hlt x (by simp [hx]))
  have a2 := Below.trod laidOut (by kernel_rfl) (of_decide_eq_true (by kernel_rfl)) g2 bel (fun x hx => by first | exact absurd hx List.not_mem_nil | exact hlt x (by simp [hx]))
  have a3 := Below.trod laidOut (by kernel_rfl) (of_decide_eq_true (by kernel_rfl)) g3 bel (fun x hx => by first | exact absurd hx List.not_mem_nil | exact hlt x (by simp [hx]))
  exact ⟨_, rfl, _, _, _, [], _, [], hW', trodAll_mk1 (shut_bool Tryz.underlying4 _), (trodAll_cons_mk a0 (trodAll_cons_mk a1 (trodAll_cons_mk a2 (trodAll_cons_mk a3 trodAll_mk0)))), rfl, bel.frame _, fun h => by cases h⟩
theorem said : Rows.IfaceBuildsSaid :=
  OpenClaim.holds_of_cond 9 Tryz.f9 rfl rfl rfl rfl rfl rfl rfl ⟨rfl, rfl, rfl, rfl, rfl⟩ rfl rfl rfl rfl rfl (by kernel_rfl) Tryz.func9 (by kernel_rfl)
    (of_decide_eq_true (by kernel_rfl)) (by unfold Func.isWrapper; first | (rw [if_pos (by decide +kernel)]; kernel_rfl) | (rw [if_neg (by decide +kernel)]; exact ⟨rfl, rfl⟩))
    (fun os started H enc _ F => by rw [OpenClaim.pre_eq_preRow]; exact lifted os started H enc F)
end builds
theorem builds_holds : Rows.IfaceBuildsCardSaid :=
  Claim7.holds_tied_plain_at .later [] _ _ _ _ builds.said (fun _ h => by cases h) (by kernel_rfl) (fun _ h => by cases h) ifaceBuilds_row_tie rfl ⟨rfl, rfl⟩ (by kernel_rfl) rfl
    (fun f fn hf hfn => by
      obtain rfl : f = 9 := Option.some.inj ((show (Tryz.prog).funcNamed "merlon/merlonlaw10.IfaceBuilds" = some 9 by kernel_rfl).symm.trans hf) |>.symm
      obtain rfl : fn = Tryz.f9 := (Option.some.inj (Tryz.func9.symm.trans hfn)).symm
      exact ⟨by kernel_rfl, fun j t ht => by
        rw [Tryz.params9] at ht
        have h3 : t = 25 ∨ t = 9 ∨ t = 3 ∨ t = 47 := by
          rcases j with _ | _ | _ | _ | j
          · left; simpa using ht.symm
          · right; left; simpa using ht.symm
          · right; right; left; simpa using ht.symm
          · right; right; right; simpa using ht.symm
          · simp at ht
        rcases h3 with rfl | rfl | rfl | rfl
        · exact (show (Tryz.prog).wantsStandIn 25 = false by kernel_rfl)
        · exact (show (Tryz.prog).wantsStandIn 9 = false by kernel_rfl)
        · exact (show (Tryz.prog).wantsStandIn 3 = false by kernel_rfl)
        · exact (show (Tryz.prog).wantsStandIn 47 = false by kernel_rfl)⟩)
    (by kernel_rfl)
#print axioms builds_holds
end Go.Proofs.YtjeldfipipkfiaaGreatDoor
