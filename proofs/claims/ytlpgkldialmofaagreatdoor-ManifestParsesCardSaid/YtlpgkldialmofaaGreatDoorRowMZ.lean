/- The statement ManifestParses: for any text the law returns true and leaves its argument as it was; the premise: the listed tables are as the program lays them (the card ties this). -/
import Derived.Test.YtlpgkldialmofaaGreatDoorRows
import Derived.Test.YtlpgkldialmofaaGreatDoorCards
import Derived.Test.YtlpgkldialmofaaGreatDoorTie
import Derived.Test.YtlpgkldialmofaaGreatDoorLawMZ
import Derived.ProofKit
import Derived.OpenShut
import Derived.ShutString
import Derived.ChangeOld
import Derived.Below
import Derived.Deep.Slices
import Derived.Deep.Fields
import Derived.ChangeSame
import Derived.ChangeVars
import Derived.ChangeMaps
import Derived.JoinedOf
import Derived.LaidLaws
import Derived.LaidHandle
import Derived.HandedShaped
import Derived.Lib.LaidTab
import Derived.Stop.LaidErr
import Derived.Stop.Joined
import Derived.Deep.DeepLaidRun
import Derived.Deep.DeepHandedRow
import Derived.SevenTiedAt
namespace Go.Proofs.YtlpgkldialmofaaGreatDoor
open Go.ChangeShapes Go.WideShapes Go.ChangeAt Go.RowKit
open Go.ChangeMaps (open_string shut_string)
namespace parses
theorem own : ownKnob Tryz.prog.godebug = none := by kernel_rfl
theorem laidOut : laidOutB Tryz.prog = true := by kernel_rfl
def put0 (h : Array Obj) (g : Nat) (cs : Array Value) : Array Obj := h.modify g fun
  | .cells _ t frozen => .cells cs t frozen
  | o => o
def num1 (d : DataW Unit) : List Value := match d with
  | .lit (.int k n) => [Value.int k n]
  | _ => []
def num2 (d : DataW Unit) : List Value := match d with
  | .agg l => l.flatMap num1
  | x => num1 x
def dat (d : DataW Unit) : Array Value := match d with
  | .agg l => (l.flatMap num2).toArray
  | _ => #[]
/-- a world that meets the condition: the settled one, the listed tables laid -/
noncomputable def laidWorld (os : Os) : World :=
  let w0 := World.holding Tryz.prog os ⟨#[], #[], []⟩
  { w0 with heap := put0 (put0 (put0 (w0.heap) 3 (dat Rows.laid_unicode_utf8_acceptRanges)) 0 #[.iface 125 (.agg #[.pointer (some ⟨4, 29, none⟩)])]) 2 (dat Rows.laid_unicode_utf8_first) }
theorem laid_met (os : Os) (args : Array Value) : laidMetH Tryz.prog Rows.manifestParsesRow.laid ((laidWorld os).forCall (fun _ _ => 0) ⟨#[], args, []⟩).memory :=
  laidMetH_of_parts (laidMet_of_run3 10 (by kernel_rfl) (by kernel_rfl) (by kernel_rfl)) (by kernel_rfl)
theorem RL.et : (Tryz.prog).globalNamed "errors.errorType" = some 0 := by kernel_rfl
theorem RL.rt : ((Tryz.prog).cutTypes.find? (·.1 == "internal/reflectlite.rtype")).map (·.2) = some 125 := by kernel_rfl
theorem RL.oneRow : ((List.range (Tryz.prog).types.size).filter fun t => (Tryz.prog).rowNamed t [101, 114, 114, 111, 114]) = [29] := by kernel_rfl
/-- what the condition gives a walk: the variable's one cell -/
theorem handle_of_laid {W : World} (h : laidMetH Tryz.prog Rows.manifestParsesRow.laid W) : HandleAt W := by
  have h' : laidMet Tryz.prog (Rows.manifestParsesRow.laid.filter fun x => x.2.handleName?.isNone) W ∧ handlesMet Tryz.prog [("errors.errorType", Rows.laid_errors_errorType)] W := h
  obtain ⟨name, u, ty, e1, e2, e3, e4, e5⟩ := h'.2 _ (List.mem_singleton.2 rfl)
  have en : name = [101, 114, 114, 111, 114] := (Option.some.inj e1).symm
  subst en
  obtain rfl := Option.some.inj (RL.rt.symm.trans e2)
  have hm : ty ∈ (List.range (Tryz.prog).types.size).filter fun t => (Tryz.prog).rowNamed t [101, 114, 114, 111, 114] := List.mem_filter.2 ⟨List.mem_range.2 e3, e4⟩
  rw [RL.oneRow] at hm
  obtain rfl := List.mem_singleton.1 hm
  have hh : typeHandle Tryz.prog 29 = .pointer (some ⟨4, 29, none⟩) := by kernel_rfl
  rw [hh] at e5
  unfold HandleAt
  simpa using World.var?_cell RL.et e5 0
theorem reads (os : Os) {H : Type} (enc : TypeId × Value → H) : ∃ places, DataW.whole enc Tryz.prog ((laidWorld os).forCall (fun _ _ => 0) ⟨#[], #[.string ByteArray.empty], []⟩).memory Tryz.f3.params.toList Rows.manifestParsesSpec.vars false (#[.string ByteArray.empty] : Array Value).toList 8 = some ([.lit (.string [])], [], places) :=
  ⟨[], by kernel_rfl⟩
set_option maxRecDepth 100000 in
theorem lifted (os : Os) (started : os.Started) (H : Type) (enc : TypeId × Value → H) (F : Stop.Interp) :
    ReturnsInHanded {} Tryz.checked os 3 .any ((OpenSpec.ofChange Rows.manifestParsesSpec).preRow enc Tryz.prog Tryz.f3 Rows.manifestParsesRow.domain false Rows.manifestParsesRow.laid) (((OpenSpec.ofChange Rows.manifestParsesSpec).at F).post enc Tryz.prog Tryz.f3 false true false false) := by
  obtain ⟨places, hx⟩ := reads os enc
  refine returnsInHanded_of_row (C := Tryz.checked) (s := (OpenSpec.ofChange Rows.manifestParsesSpec)) own started (by kernel_rfl) Tryz.func3
    (witness_row_at (enc := enc) (C := Tryz.checked) false (laidWorld os) #[.string ByteArray.empty] rfl (by kernel_rfl) (by kernel_rfl) (by kernel_rfl)
      (OpenSpec.preRow_of_cond 8 hx (by kernel_rfl) (fun k hk => by cases hk) (by kernel_rfl) (laid_met os _))) ?_
  intro W base args ds gs before hval0 hW _ hcond _ hL hsh _
  have hval : ∀ (j : Nat) t v, Tryz.f3.params[j]? = some t → args[j]? = some v → Value.okWide Tryz.prog W .any base t v := hval0
  have hW' := hW
  obtain ⟨p, q, hA0, hV, rfl, hfz, hnd⟩ := hW
  have hA : DataW.TrodAll enc Tryz.prog W 0 (fun _ => true) true Tryz.f3.params.toList args.toList ds p := hA0
  rw [Tryz.params3] at hA hval
  obtain ⟨v0, vs0, d0, ds0, p0, q0, hargs, rfl, rfl, h0, r0⟩ := trodAll_cons hA
  obtain ⟨rfl, rfl, rfl⟩ := trodAll_nil r0
  obtain rfl : args = #[v0] := by cases args; simp_all
  obtain ⟨rfl, rfl⟩ := trodVars_none hV
  have g0 := h0
  obtain ⟨s, rfl, rfl, rfl, hs0⟩ := open_string Tryz.underlying9 (hval 0 9 v0 rfl rfl) h0
  have hlt := hW'.lt
  clear hA0 hval0
  refine (manParses_c s W (handle_of_laid hL) (MaxW.of hsh)).mono fun e W' ⟨he, bel⟩ => ?_
  subst he
  have a0 := Below.trod laidOut (by kernel_rfl) (of_decide_eq_true (by kernel_rfl)) g0 bel (fun x hx => by first | exact absurd hx List.not_mem_nil | exact hlt x (by simp [hx]))
  exact ⟨_, rfl, _, _, _, [], _, [], hW', trodAll_mk1 (shut_bool Tryz.underlying4 _), (trodAll_cons_mk a0 trodAll_mk0), rfl, bel.frame _, fun h => by cases h⟩
theorem said : Rows.ManifestParsesSaid :=
  OpenClaim.holds_of_cond 3 Tryz.f3 rfl rfl rfl rfl rfl rfl rfl ⟨rfl, rfl, rfl, rfl, rfl⟩ rfl rfl rfl rfl rfl (by kernel_rfl) Tryz.func3 (by kernel_rfl)
    (of_decide_eq_true (by kernel_rfl)) (by unfold Func.isWrapper; first | (rw [if_pos (by decide +kernel)]; kernel_rfl) | (rw [if_neg (by decide +kernel)]; exact ⟨rfl, rfl⟩))
    (fun os started H enc _ F => by rw [OpenClaim.pre_eq_preRow]; exact lifted os started H enc F)
end parses
theorem parses_holds : Rows.ManifestParsesCardSaid :=
  Claim7.holds_tied_plain_at .later [] _ _ _ _ parses.said (fun _ h => by cases h) (by kernel_rfl) (fun _ h => by cases h) manifestParses_row_tie rfl ⟨rfl, rfl⟩ (by kernel_rfl) rfl
    (fun f fn hf hfn => by
      obtain rfl : f = 3 := Option.some.inj ((show (Tryz.prog).funcNamed "merlon/merlonlaw14.ManifestParses" = some 3 by kernel_rfl).symm.trans hf) |>.symm
      obtain rfl : fn = Tryz.f3 := (Option.some.inj (Tryz.func3.symm.trans hfn)).symm
      exact ⟨by kernel_rfl, fun j t ht => by
        rw [Tryz.params3] at ht
        have h3 : t = 9 := by
          rcases j with _ | j
          · simpa using ht.symm
          · simp at ht
        rcases h3 with rfl
        exact (show (Tryz.prog).wantsStandIn 9 = false by kernel_rfl)⟩)
    (by kernel_rfl)
#print axioms parses_holds
end Go.Proofs.YtlpgkldialmofaaGreatDoor
