/- The statement ManifestPrints: for any manifest the law returns true and leaves its argument as it was; the premise: the listed tables are as the program lays them (the card ties this). -/
import Derived.Test.YtlpgkldialmofaaDoorRows
import Derived.Test.YtlpgkldialmofaaDoorCards
import Derived.Test.YtlpgkldialmofaaDoorTie
import Derived.Test.YtlpgkldialmofaaDoorLawMP
import Derived.Test.YtlpgkldialmofaaDoorOpenM
import Derived.ProofKit
import Derived.OpenShut
import Derived.ShutString
import Derived.ChangeOld
import Derived.Below
import Derived.Deep.Slices
import Derived.Deep.Fields
import Derived.ChangeSame
import Derived.ChangeVars
import Derived.ChangeMaps
import Derived.JoinedOf
import Derived.LaidLaws
import Derived.LaidHandle
import Derived.HandedShaped
import Derived.Lib.LaidTab
import Derived.Stop.LaidErr
import Derived.Stop.Joined
import Derived.Deep.DeepLaidRun
import Derived.Deep.DeepHandedRow
import Derived.SevenTiedAt
namespace Go.Proofs.YtlpgkldialmofaaDoor
open Go.ChangeShapes Go.WideShapes Go.ChangeAt Go.RowKit
open Go.ChangeMaps (open_string shut_string)
namespace prints
theorem own : ownKnob Tryd.prog.godebug = none := by kernel_rfl
theorem laidOut : laidOutB Tryd.prog = true := by kernel_rfl
def put0 (h : Array Obj) (g : Nat) (cs : Array Value) : Array Obj := h.modify g fun
  | .cells _ t frozen => .cells cs t frozen
  | o => o
def num1 (d : DataW Unit) : List Value := match d with
  | .lit (.int k n) => [Value.int k n]
  | _ => []
def num2 (d : DataW Unit) : List Value := match d with
  | .agg l => l.flatMap num1
  | x => num1 x
def dat (d : DataW Unit) : Array Value := match d with
  | .agg l => (l.flatMap num2).toArray
  | _ => #[]
/-- a world that meets the condition: the settled one, the listed tables laid -/
noncomputable def laidWorld (os : Os) : World :=
  let w0 := World.holding Tryd.prog os ⟨#[], #[], []⟩
  { w0 with heap := put0 (put0 (put0 (put0 (put0 (w0.heap) 4 (dat Rows.laid_math_bits_deBruijn32tab)) 5 (dat Rows.laid_math_bits_deBruijn64tab)) 1 (dat Rows.laid_internal_strconv_uint64pow10)) 3 (dat Rows.laid_unicode_utf8_acceptRanges)) 2 (dat Rows.laid_unicode_utf8_first) }
theorem laid_met (os : Os) (args : Array Value) : laidMetH Tryd.prog Rows.manifestPrintsRow.laid ((laidWorld os).forCall (fun _ _ => 0) ⟨#[], args, []⟩).memory :=
  (laidMet_of_run3 10 (by kernel_rfl) (by kernel_rfl) (by kernel_rfl) : laidMet Tryd.prog Rows.manifestPrintsRow.laid ((laidWorld os).forCall (fun _ _ => 0) ⟨#[], args, []⟩).memory)
theorem tab_type : (Tryd.prog.globals[1]?).map (·.type) = some 118 := by kernel_rfl
theorem tab_of_laid {W : World} (h : laidMetH Tryd.prog Rows.manifestPrintsRow.laid W) : TabW W := by
  have h1 : laidMet Tryd.prog Rows.manifestPrintsRow.laid W := h
  have h2 := h1.tail.tail
  exact ⟨_, (by kernel_rfl), Lib.tabIs_of_head (g := 1) (by kernel_rfl) tab_type Tryd.underlying118 Tryd.underlying98 (by kernel_rfl) (by kernel_rfl) h2⟩
theorem reads (os : Os) {H : Type} (enc : TypeId × Value → H) : ∃ places, DataW.whole enc Tryd.prog ((laidWorld os).forCall (fun _ _ => 0) ⟨#[], #[.agg #[.string ByteArray.empty, .int .i64 0, .int .i64 0, .int .i64 0, .slice none 0 0]], []⟩).memory Tryd.f6.params.toList Rows.manifestPrintsSpec.vars false (#[.agg #[.string ByteArray.empty, .int .i64 0, .int .i64 0, .int .i64 0, .slice none 0 0]] : Array Value).toList 8 = some ([.agg [.lit (.string []), .agg [.lit (.int .i64 0), .lit (.int .i64 0), .lit (.int .i64 0)], .nil]], [], places) :=
  ⟨[], by kernel_rfl⟩
set_option maxRecDepth 100000 in
theorem lifted (os : Os) (started : os.Started) (H : Type) (enc : TypeId × Value → H) (F : Stop.Interp) :
    ReturnsInHanded {} Tryd.checked os 6 .any ((OpenSpec.ofChange Rows.manifestPrintsSpec).preRow enc Tryd.prog Tryd.f6 Rows.manifestPrintsRow.domain false Rows.manifestPrintsRow.laid) (((OpenSpec.ofChange Rows.manifestPrintsSpec).at F).post enc Tryd.prog Tryd.f6 false true false false) := by
  obtain ⟨places, hx⟩ := reads os enc
  refine returnsInHanded_of_row (C := Tryd.checked) (s := (OpenSpec.ofChange Rows.manifestPrintsSpec)) own started (by kernel_rfl) Tryd.func6
    (witness_row_at (enc := enc) (C := Tryd.checked) false (laidWorld os) #[.agg #[.string ByteArray.empty, .int .i64 0, .int .i64 0, .int .i64 0, .slice none 0 0]] rfl (by kernel_rfl) (by kernel_rfl) (by kernel_rfl)
      (OpenSpec.preRow_of_cond 8 hx (by kernel_rfl) (fun k hk => by cases hk) (by kernel_rfl) (laid_met os _))) ?_
  intro W base args ds gs before hval0 hW _ hcond _ hL hsh _
  have hval : ∀ (j : Nat) t v, Tryd.f6.params[j]? = some t → args[j]? = some v → Value.okWide Tryd.prog W .any base t v := hval0
  have hW' := hW
  obtain ⟨p, q, hA0, hV, rfl, hfz, hnd⟩ := hW
  have hA : DataW.TrodAll enc Tryd.prog W 0 (fun _ => true) true Tryd.f6.params.toList args.toList ds p := hA0
  rw [Tryd.params6] at hA hval
  obtain ⟨v0, vs0, d0, ds0, p0, q0, hargs, rfl, rfl, h0, r0⟩ := trodAll_cons hA
  obtain ⟨rfl, rfl, rfl⟩ := trodAll_nil r0
  obtain rfl : args = #[v0] := by cases args; simp_all
  obtain ⟨rfl, rfl⟩ := trodVars_none hV
  have g0 := h0
  obtain ⟨s, v1, v2, v3, A, cap, ts, rfl, hl, hz, hd, hn⟩ := OpM.open_man (hval 0 49 v0 rfl rfl) h0
  have hlt := hW'.lt
  clear hA0 hval0
  refine (manPrints_c s v1 v2 v3 A cap ts W hd hl hz hn (MaxW.of hsh) (tab_of_laid hL)).mono fun e W' ⟨he, bel⟩ => ?_
  subst he
  have a0 := Below.trod laidOut (by kernel_rfl) (of_decide_eq_true (by kernel_rfl)) g0 bel (fun x hx => by first | exact absurd hx List.not_mem_nil | exact hlt x (by simp [hx]))
  exact ⟨_, rfl, _, _, _, [], _, [], hW', trodAll_mk1 (shut_bool Tryd.underlying4 _), (trodAll_cons_mk a0 trodAll_mk0), rfl, bel.frame _, fun h => by cases h⟩
theorem said : Rows.ManifestPrintsSaid :=
  OpenClaim.holds_of_cond 6 Tryd.f6 rfl rfl rfl rfl rfl rfl rfl ⟨rfl, rfl, rfl, rfl, rfl⟩ rfl rfl rfl rfl rfl (by kernel_rfl) Tryd.func6 (by kernel_rfl)
    (of_decide_eq_true (by kernel_rfl)) (by unfold Func.isWrapper; first | (rw [if_pos (by decide +kernel)]; kernel_rfl) | (rw [if_neg (by decide +kernel)]; exact ⟨rfl, rfl⟩))
    (fun os started H enc _ F => by rw [OpenClaim.pre_eq_preRow]; exact lifted os started H enc F)
end prints
theorem prints_holds : Rows.ManifestPrintsCardSaid :=
  Claim7.holds_tied_plain_at .later [] _ _ _ _ prints.said (fun _ h => by cases h) (by kernel_rfl) (fun _ h => by cases h) manifestPrints_row_tie rfl ⟨rfl, rfl⟩ (by kernel_rfl) rfl
    (fun f fn hf hfn => by
      obtain rfl : f = 6 := Option.some.inj ((show (Tryd.prog).funcNamed "merlon/merlonlaw14.ManifestPrints" = some 6 by kernel_rfl).symm.trans hf) |>.symm
      obtain rfl : fn = Tryd.f6 := (Option.some.inj (Tryd.func6.symm.trans hfn)).symm
      exact ⟨by kernel_rfl, fun j t ht => by
        rw [Tryd.params6] at ht
        have h3 : t = 49 := by
          rcases j with _ | j
          · simpa using ht.symm
          · simp at ht
        rcases h3 with rfl
        exact (show (Tryd.prog).wantsStandIn 49 = false by kernel_rfl)⟩)
    (by kernel_rfl)
#print axioms prints_holds
end Go.Proofs.YtlpgkldialmofaaDoor
