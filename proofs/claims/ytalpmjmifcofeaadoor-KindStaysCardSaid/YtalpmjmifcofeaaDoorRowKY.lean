/- The statement KindStays: for any type the law returns true and leaves its argument as it was; the premise: the three listed variables are as the program lays them (the card ties this). -/
import Derived.Test.YtalpmjmifcofeaaDoorRows
import Derived.Test.YtalpmjmifcofeaaDoorCards
import Derived.Test.YtalpmjmifcofeaaDoorTie
import Derived.Test.YtalpmjmifcofeaaDoorLawKY
import Derived.Test.YtalpmjmifcofeaaDoorOpen
import Derived.ChangeSame
import Derived.ChangeVars
import Derived.JoinedOf
import Derived.LaidLaws
import Derived.LaidHandle
import Derived.Lib.LaidTab
import Derived.Stop.LaidErr
import Derived.Deep.DeepLaidRun
import Derived.SevenTiedAt
namespace Go.Proofs.YtalpmjmifcofeaaDoor
open Go.ChangeShapes Go.WideShapes Go.ChangeAt Go.RowKit
theorem own : ownKnob Tryd.prog.godebug = none := by kernel_rfl
theorem laidOut : laidOutB Tryd.prog = true := by kernel_rfl
def put0 (h : Array Obj) (g : Nat) (cs : Array Value) : Array Obj := h.modify g fun
  | .cells _ t frozen => .cells cs t frozen
  | o => o
def dat (d : DataW Unit) : Array Value := match d with
  | .agg l => (l.map fun x => match x with | .lit (.int k n) => Value.int k n | _ => .bool false).toArray
  | _ => #[]
/-- a world that meets the condition: the settled one, the three tables laid -/
noncomputable def laidWorld (os : Os) : World :=
  let w0 := World.holding Tryd.prog os ⟨#[], #[], []⟩
  { w0 with heap := put0 (put0 (put0 w0.heap 2 (dat Rows.laid_math_bits_deBruijn32tab)) 3 (dat Rows.laid_math_bits_deBruijn64tab)) 0 (dat Rows.laid_internal_strconv_uint64pow10) }
theorem laidWorld_met (os : Os) (args : Array Value) : laidMetH Tryd.prog Rows.kindStaysRow.laid ((laidWorld os).forCall (fun _ _ => 0) ⟨#[], args, []⟩).memory :=
  (laidMet_of_run3 10 (by kernel_rfl) (by kernel_rfl) (by kernel_rfl) : laidMet Tryd.prog Rows.kindStaysRow.laid ((laidWorld os).forCall (fun _ _ => 0) ⟨#[], args, []⟩).memory)
theorem tab_type : (Tryd.prog.globals[0]?).map (·.type) = some 74 := by kernel_rfl
/-- what the row's condition gives the walk -/
theorem tab_of_laid {W : World} (h : laidMetH Tryd.prog Rows.kindStaysRow.laid W) : TabW W := by
  have h1 : laidMet Tryd.prog Rows.kindStaysRow.laid W := h
  have h2 := h1.tail.tail
  exact ⟨_, (by kernel_rfl), Lib.tabIs_of_head (g := 0) (by kernel_rfl) tab_type Tryd.underlying74 Tryd.underlying62 (by kernel_rfl) (by kernel_rfl) h2⟩

set_option maxRecDepth 100000 in
theorem stays_lifted (os : Os) (started : os.Started) (H : Type) (enc : TypeId × Value → H) :
    ReturnsInHanded {} Tryd.checked os 5 .any (fun w args => (Rows.kindStaysSpec.pre enc Tryd.prog Tryd.f5 [] false w args ∧ laidMetH Tryd.prog Rows.kindStaysRow.laid w) ∧ sizedMet enc Tryd.prog Tryd.f5 (OpenSpec.ofChange Rows.kindStaysSpec) false w args)
      (Rows.kindStaysSpec.post enc Tryd.prog Tryd.f5 false true false false) := by
  refine returnsInHanded_of_change_and (C := Tryd.checked) (X := fun w _ => laidMetH Tryd.prog Rows.kindStaysRow.laid w) (fun _ _ _ hh h => h.of_heap hh) own started (by kernel_rfl) Tryd.func5
    (ChangeSpec.witness_at (enc := enc) (C := Tryd.checked) (os := os) (X := fun w _ => laidMetH Tryd.prog Rows.kindStaysRow.laid w) false (laidWorld os) #[.agg #[.int .i64 0, .string ByteArray.empty, .int .i64 0, .string ByteArray.empty, .string ByteArray.empty, .slice none 0 0, .slice none 0 0]] 8 rfl (by kernel_rfl) (by kernel_rfl) (by kernel_rfl) (by kernel_rfl) (by kernel_rfl) (laidWorld_met os _)) ?_
  intro W base args ds gs before hval0 hW _ _ hL _
  have hval : ∀ (j : Nat) t v, Tryd.f5.params[j]? = some t → args[j]? = some v → Value.okWide Tryd.prog W .any base t v := hval0
  have hW' := hW
  obtain ⟨p, q, hA0, hV, rfl, hfz, hnd⟩ := hW
  have hA : DataW.TrodAll enc Tryd.prog W 0 (fun _ => true) true Tryd.f5.params.toList args.toList ds p := hA0
  rw [Tryd.params5] at hA hval
  obtain ⟨v0, vs0, d0, ds0, p0, q0, hargs, rfl, rfl, h0, r0⟩ := trodAll_cons hA
  obtain ⟨rfl, rfl, rfl⟩ := trodAll_nil r0
  obtain rfl : args = #[v0] := by cases args; simp_all
  obtain ⟨rfl, rfl⟩ := trodVars_none hV
  obtain ⟨c0, t0, rfl, ht0⟩ := open_type (hval 0 25 v0 rfl rfl) h0
  have hlt := hW'.lt
  clear hA0 hval0
  refine (stays_c t0 c0 W.heap.size W ht0 (Nat.le_refl _) (tab_of_laid hL)).mono fun e W' ⟨he, bel⟩ => ?_
  subst he
  have a0 := Below.trod laidOut (by kernel_rfl) (of_decide_eq_true (by kernel_rfl)) h0 bel (fun x hx => hlt x (by simp [hx]))
  exact ⟨_, rfl, _, _, _, [], _, [], hW', trodAll_mk1 (shut_bool Tryd.underlying4 _), (trodAll_cons_mk a0 trodAll_mk0), rfl, bel.frame _, fun h => by cases h⟩
theorem stays_row : Rows.KindStaysSaid :=
  OpenClaim.holds_of_wide 5 Tryd.f5 rfl rfl rfl rfl rfl rfl rfl ⟨rfl, rfl, rfl, rfl, rfl⟩ rfl rfl rfl rfl rfl (by kernel_rfl) Tryd.func5 (by kernel_rfl)
    (of_decide_eq_true (by kernel_rfl)) (by unfold Func.isWrapper; first | (rw [if_pos (by decide +kernel)]; kernel_rfl) | (rw [if_neg (by decide +kernel)]; exact ⟨rfl, rfl⟩))
    (fun os started H enc _ => stays_lifted os started H enc)
theorem stays_holds : Rows.KindStaysCardSaid :=
  Claim7.holds_tied_plain_at .later [] [.data, .data, .data] true (true, "7d2da0cd788fc2cd4c12568ab9eaeb9ba75c428b34218451d84875acfed371c9") true
    stays_row (fun _ h => by cases h) (by kernel_rfl) (fun _ h => by cases h) kindStays_row_tie rfl ⟨rfl, rfl⟩ (by kernel_rfl) rfl
    (fun f fn hf hfn => by
      obtain rfl : f = 5 := Option.some.inj ((show (Tryd.prog).funcNamed "merlon/merlonlaw04.KindStays" = some 5 by kernel_rfl).symm.trans hf) |>.symm
      obtain rfl : fn = Tryd.f5 := (Option.some.inj (Tryd.func5.symm.trans hfn)).symm
      exact ⟨by kernel_rfl, fun j t ht => by
        rw [Tryd.params5] at ht
        have h3 : t = 25 := by
          rcases j with _ | j
          · simpa using ht.symm
          · simp at ht
        subst h3
        exact (show (Tryd.prog).wantsStandIn 25 = false by kernel_rfl)⟩)
    (by kernel_rfl)
#print axioms stays_holds
end Go.Proofs.YtalpmjmifcofeaaDoor
