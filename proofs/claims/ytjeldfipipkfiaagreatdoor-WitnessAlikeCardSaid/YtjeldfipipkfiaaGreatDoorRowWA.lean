/- The statement WitnessAlike: for any rows of interfaces and any client the law returns true and leaves its arguments as they were; the premise: the listed tables are as the program lays them (the card ties this). -/
import Derived.Test.YtjeldfipipkfiaaGreatDoorRows
import Derived.Test.YtjeldfipipkfiaaGreatDoorCards
import Derived.Test.YtjeldfipipkfiaaGreatDoorTie
import Derived.Test.YtjeldfipipkfiaaGreatDoorLawWA
import Derived.Test.YtjeldfipipkfiaaGreatDoorGUsD
import Derived.ProofKit
import Derived.OpenShut
import Derived.ShutString
import Derived.ChangeOld
import Derived.Below
import Derived.Deep.Slices
import Derived.Deep.Fields
import Derived.ChangeSame
import Derived.ChangeVars
import Derived.ChangeMaps
import Derived.JoinedOf
import Derived.LaidLaws
import Derived.LaidHandle
import Derived.HandedShaped
import Derived.Lib.LaidTab
import Derived.Stop.LaidErr
import Derived.Stop.Joined
import Derived.Deep.DeepLaidRun
import Derived.Deep.DeepHandedRow
import Derived.SevenTiedAt
namespace Go.Proofs.YtjeldfipipkfiaaGreatDoor
open Go.ChangeShapes Go.WideShapes Go.ChangeAt Go.RowKit
open Go.ChangeMaps (open_string shut_string)
namespace alike
theorem own : ownKnob Tryz.prog.godebug = none := by kernel_rfl
theorem laidOut : laidOutB Tryz.prog = true := by kernel_rfl
def put0 (h : Array Obj) (g : Nat) (cs : Array Value) : Array Obj := h.modify g fun
  | .cells _ t frozen => .cells cs t frozen
  | o => o
def num1 (d : DataW Unit) : List Value := match d with
  | .lit (.int k n) => [Value.int k n]
  | _ => []
def num2 (d : DataW Unit) : List Value := match d with
  | .agg l => l.flatMap num1
  | x => num1 x
def dat (d : DataW Unit) : Array Value := match d with
  | .agg l => (l.flatMap num2).toArray
  | _ => #[]
noncomputable def laidWorld (os : Os) : World :=
  let w0 := World.holding Tryz.prog os ⟨#[], #[], []⟩
  { w0 with heap := put0 (put0 (put0 (w0.heap) 3 (dat Rows.laid_math_bits_deBruijn32tab)) 4 (dat Rows.laid_math_bits_deBruijn64tab)) 1 (dat Rows.laid_internal_strconv_uint64pow10) }
theorem laid_met (os : Os) (args : Array Value) : laidMetH Tryz.prog Rows.witnessAlikeRow.laid ((laidWorld os).forCall (fun _ _ => 0) ⟨#[], args, []⟩).memory :=
  (laidMet_of_run3 10 (by kernel_rfl) (by kernel_rfl) (by kernel_rfl) : laidMet Tryz.prog Rows.witnessAlikeRow.laid ((laidWorld os).forCall (fun _ _ => 0) ⟨#[], args, []⟩).memory)
theorem reads (os : Os) {H : Type} (enc : TypeId × Value → H) : ∃ places, DataW.whole enc Tryz.prog ((laidWorld os).forCall (fun _ _ => 0) ⟨#[], #[.slice none 0 0, .slice none 0 0, .agg #[.slice none 0 0, .slice none 0 0]], []⟩).memory Tryz.f11.params.toList Rows.witnessAlikeSpec.vars false (#[.slice none 0 0, .slice none 0 0, .agg #[.slice none 0 0, .slice none 0 0]] : Array Value).toList 8 = some ([.nil, .nil, .agg [.nil, .nil]], [], places) :=
  ⟨[], by kernel_rfl⟩
set_option maxRecDepth 100000 in
theorem lifted (os : Os) (started : os.Started) (H : Type) (enc : TypeId × Value → H) (F : Stop.Interp) :
    ReturnsInHanded {} Tryz.checked os 11 .any ((OpenSpec.ofChange Rows.witnessAlikeSpec).preRow enc Tryz.prog Tryz.f11 Rows.witnessAlikeRow.domain false Rows.witnessAlikeRow.laid) (((OpenSpec.ofChange Rows.witnessAlikeSpec).at F).post enc Tryz.prog Tryz.f11 false true false false) := by
  obtain ⟨places, hx⟩ := reads os enc
  refine returnsInHanded_of_row (C := Tryz.checked) (s := (OpenSpec.ofChange Rows.witnessAlikeSpec)) own started (by kernel_rfl) Tryz.func11
    (witness_row_at (enc := enc) (C := Tryz.checked) false (laidWorld os) #[.slice none 0 0, .slice none 0 0, .agg #[.slice none 0 0, .slice none 0 0]] rfl (by kernel_rfl) (by kernel_rfl) (by kernel_rfl)
      (OpenSpec.preRow_of_cond 8 hx (by kernel_rfl) (fun k hk => by cases hk) (by kernel_rfl) (laid_met os _))) ?_
  intro W base args ds gs before hval0 hW _ hcond _ hL hsh _
  have hval : ∀ (j : Nat) t v, Tryz.f11.params[j]? = some t → args[j]? = some v → Value.okWide Tryz.prog W .any base t v := hval0
  have hW' := hW
  obtain ⟨p, q, hA0, hV, rfl, hfz, hnd⟩ := hW
  have hA : DataW.TrodAll enc Tryz.prog W 0 (fun _ => true) true Tryz.f11.params.toList args.toList ds p := hA0
  rw [Tryz.params11] at hA hval
  obtain ⟨v0, vs0, d0, ds0, p0, q0, hargs, rfl, rfl, h0, r0⟩ := trodAll_cons hA
  obtain ⟨v1, vs1, d1, ds1, p1, q1, rfl, rfl, rfl, h1, r1⟩ := trodAll_cons r0
  obtain ⟨v2, vs2, d2, ds2, p2, q2, rfl, rfl, rfl, h2, r2⟩ := trodAll_cons r1
  obtain ⟨rfl, rfl, rfl⟩ := trodAll_nil r2
  obtain rfl : args = #[v0, v1, v2] := by cases args; simp_all
  obtain ⟨rfl, rfl⟩ := trodVars_none hV
  have g0 := h0
  have g1 := h1
  have g2 := h2
  obtain ⟨A1, c1, l1, rfl, hlc1, hcm1, ht1⟩ := open_ifs (hval 0 47 v0 rfl rfl) h0
  obtain ⟨A2, c2, l2, rfl, hlc2, hcm2, ht2⟩ := open_ifs (hval 1 47 v1 rfl rfl) h1
  obtain ⟨u, ia, ic, la, lc, rfl, hu⟩ := open_uses (hval 2 82 v2 rfl rfl) h2
  have hlt := hW'.lt
  clear hA0 hval0
  refine (walike_c A1 A2 ia la c1 c2 ic lc W.heap.size l1 l2 u W ht1 ht2 hu (Nat.le_refl _) (Nat.le_trans hlc1 hcm1) (Nat.le_trans hlc2 hcm2) hlc1 hlc2).mono fun e W' ⟨he, bel⟩ => ?_
  subst he
  have a0 := Below.trod laidOut (by kernel_rfl) (of_decide_eq_true (by kernel_rfl)) g0 bel (fun x hx => by first | exact absurd hx List.not_mem_nil | exact hlt x (by simp [hx]))
  have a1 := Below.trod laidOut (by kernel_rfl) (of_decide_eq_true (by kernel_rfl)) g1 bel (fun x hx => by first | exact absurd hx List.not_mem_nil | exact hlt x (by simp [hx]))
  have a2 := Below.trod laidOut (by kernel_rfl) (of_decide_eq_true (by kernel_rfl)) g2 bel (fun x hx => by first | exact absurd hx List.not_mem_nil | exact hlt x (by simp [hx]))
  exact ⟨_, rfl, _, _, _, [], _, [], hW', trodAll_mk1 (shut_bool Tryz.underlying4 _), (trodAll_cons_mk a0 (trodAll_cons_mk a1 (trodAll_cons_mk a2 trodAll_mk0))), rfl, bel.frame _, fun h => by cases h⟩
theorem said : Rows.WitnessAlikeSaid :=
  OpenClaim.holds_of_cond 11 Tryz.f11 rfl rfl rfl rfl rfl rfl rfl ⟨rfl, rfl, rfl, rfl, rfl⟩ rfl rfl rfl rfl rfl (by kernel_rfl) Tryz.func11 (by kernel_rfl)
    (of_decide_eq_true (by kernel_rfl)) (by unfold Func.isWrapper; first | (rw [if_pos (by decide +kernel)]; kernel_rfl) | (rw [if_neg (by decide +kernel)]; exact ⟨rfl, rfl⟩))
    (fun os started H enc _ F => by rw [OpenClaim.pre_eq_preRow]; exact lifted os started H enc F)
end alike
theorem alike_holds : Rows.WitnessAlikeCardSaid :=
  Claim7.holds_tied_plain_at .later [] _ _ _ _ alike.said (fun _ h => by cases h) (by kernel_rfl) (fun _ h => by cases h) witnessAlike_row_tie rfl ⟨rfl, rfl⟩ (by kernel_rfl) rfl
    (fun f fn hf hfn => by
      obtain rfl : f = 11 := Option.some.inj ((show (Tryz.prog).funcNamed "merlon/merlonlaw13.WitnessAlike" = some 11 by kernel_rfl).symm.trans hf) |>.symm
      obtain rfl : fn = Tryz.f11 := (Option.some.inj (Tryz.func11.symm.trans hfn)).symm
      exact ⟨by kernel_rfl, fun j t ht => by
        rw [Tryz.params11] at ht
        have h3 : t = 47 ∨ t = 82 := by
          rcases j with _ | _ | _ | j
          · left; simpa using ht.symm
          · left; simpa using ht.symm
          · right; simpa using ht.symm
          · simp at ht
        rcases h3 with rfl | rfl
        · exact (show (Tryz.prog).wantsStandIn 47 = false by kernel_rfl)
        · exact (show (Tryz.prog).wantsStandIn 82 = false by kernel_rfl)⟩)
    (by kernel_rfl)
#print axioms alike_holds
end Go.Proofs.YtjeldfipipkfiaaGreatDoor
