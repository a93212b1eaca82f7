/- The statement SemverBack, second form: for any version and any text of bulk at most 1048576 the law returns true and leaves its arguments as they were; the premise: the listed tables are as the program lays them (the card ties this). -/
import Derived.Test.YtlpgkldialmofaaDoorRows
import Derived.Test.YtlpgkldialmofaaDoorCards
import Derived.Test.YtlpgkldialmofaaDoorTie
import Derived.Test.YtlpgkldialmofaaDoorLawVB
import Derived.ProofKit
import Derived.OpenShut
import Derived.ShutString
import Derived.ChangeOld
import Derived.Below
import Derived.Deep.Slices
import Derived.Deep.Fields
import Derived.ChangeSame
import Derived.ChangeVars
import Derived.ChangeMaps
import Derived.JoinedOf
import Derived.LaidLaws
import Derived.LaidHandle
import Derived.HandedShaped
import Derived.Lib.LaidTab
import Derived.Stop.LaidErr
import Derived.Stop.Joined
import Derived.Deep.DeepLaidRun
import Derived.Deep.DeepHandedRow
import Derived.SevenTiedAt
namespace Go.Proofs.YtlpgkldialmofaaDoor
open Go.ChangeShapes Go.WideShapes Go.ChangeAt Go.RowKit
open Go.ChangeMaps (open_string shut_string)
namespace backUpto
theorem own : ownKnob Tryd.prog.godebug = none := by kernel_rfl
theorem laidOut : laidOutB Tryd.prog = true := by kernel_rfl
def put0 (h : Array Obj) (g : Nat) (cs : Array Value) : Array Obj := h.modify g fun
  | .cells _ t frozen => .cells cs t frozen
  | o => o
def num1 (d : DataW Unit) : List Value := match d with
  | .lit (.int k n) => [Value.int k n]
  | _ => []
def num2 (d : DataW Unit) : List Value := match d with
  | .agg l => l.flatMap num1
  | x => num1 x
def dat (d : DataW Unit) : Array Value := match d with
  | .agg l => (l.flatMap num2).toArray
  | _ => #[]
/-- a world that meets the condition: the settled one, the listed tables laid -/
noncomputable def laidWorld (os : Os) : World :=
  let w0 := World.holding Tryd.prog os ⟨#[], #[], []⟩
  { w0 with heap := put0 (put0 (put0 (put0 (put0 (w0.heap) 4 (dat Rows.laid_math_bits_deBruijn32tab)) 5 (dat Rows.laid_math_bits_deBruijn64tab)) 1 (dat Rows.laid_internal_strconv_uint64pow10)) 3 (dat Rows.laid_unicode_utf8_acceptRanges)) 2 (dat Rows.laid_unicode_utf8_first) }
theorem laid_met (os : Os) (args : Array Value) : laidMetH Tryd.prog Rows.semverBackUptoRow.laid ((laidWorld os).forCall (fun _ _ => 0) ⟨#[], args, []⟩).memory :=
  (laidMet_of_run3 10 (by kernel_rfl) (by kernel_rfl) (by kernel_rfl) : laidMet Tryd.prog Rows.semverBackUptoRow.laid ((laidWorld os).forCall (fun _ _ => 0) ⟨#[], args, []⟩).memory)
theorem tab_type : (Tryd.prog.globals[1]?).map (·.type) = some 118 := by kernel_rfl
theorem tab_of_laid {W : World} (h : laidMetH Tryd.prog Rows.semverBackUptoRow.laid W) : TabW W := by
  have h1 : laidMet Tryd.prog Rows.semverBackUptoRow.laid W := h
  have h2 := h1.tail.tail
  exact ⟨_, (by kernel_rfl), Lib.tabIs_of_head (g := 1) (by kernel_rfl) tab_type Tryd.underlying118 Tryd.underlying98 (by kernel_rfl) (by kernel_rfl) h2⟩
section
variable {H : Type} {enc : TypeId × Value → H}
set_option maxRecDepth 100000 in
/-- an argument api.Version is three numbers -/
theorem open_ver {w : World} {base : Nat} {spare : Nat → Bool} {held : Bool} {r : Reach} {b0 : Nat} {v : Value} {d : DataW H} {p : List MemPlace} (hv : Value.okWide Tryd.prog w r b0 23 v) (h : DataW.Trod enc Tryd.prog w base spare held 23 v d p) :
    ∃ x y z, v = .agg (ver x y z) := by
  obtain ⟨cs, rfl, hsz⟩ := okWide_struct Tryd.underlying23 hv
  obtain ⟨fuel, hf⟩ := h
  obtain ⟨xs, n, rfl, -, hcl, hxl, hf⟩ := DataW.trod_struct Tryd.underlying23 hf
  have hC : Program.cellsOf Tryd.prog 23 = 3 := by kernel_rfl
  have hC1 : Program.cellsOf Tryd.prog 3 = 1 := by kernel_rfl
  rw [hC] at hcl
  have e : (Value.agg cs).cells.toList = cs.toList := by simp [Value.cells]
  rw [e] at hcl hf
  obtain ⟨l⟩ := cs
  change l.length = 3 at hcl
  match l, hcl with
  | [c0, c1, c2], _ =>
  match xs, hxl with
  | [y0, y1, y2], _ =>
  have e0 : DataW.trod enc Tryd.prog w base spare held n 3 (([c0, c1, c2].drop 0).take (Program.cellsOf Tryd.prog 3)) = some y0 := hf 0 _ rfl
  have e1 : DataW.trod enc Tryd.prog w base spare held n 3 (([c0, c1, c2].drop 1).take (Program.cellsOf Tryd.prog 3)) = some y1 := hf 1 _ rfl
  have e2 : DataW.trod enc Tryd.prog w base spare held n 3 (([c0, c1, c2].drop 2).take (Program.cellsOf Tryd.prog 3)) = some y2 := hf 2 _ rfl
  rw [hC1] at e0 e1 e2
  obtain ⟨x, h0, -, -⟩ := DataW.trod_int Tryd.underlying3 e0
  obtain ⟨y, h1, -, -⟩ := DataW.trod_int Tryd.underlying3 e1
  obtain ⟨z, h2, -, -⟩ := DataW.trod_int Tryd.underlying3 e2
  simp at h0 h1 h2
  subst h0 h1 h2
  exact ⟨x, y, z, rfl⟩
end
theorem reads (os : Os) {H : Type} (enc : TypeId × Value → H) : ∃ places, DataW.whole enc Tryd.prog ((laidWorld os).forCall (fun _ _ => 0) ⟨#[], #[.agg #[.int .i64 0, .int .i64 0, .int .i64 0], .string ByteArray.empty], []⟩).memory Tryd.f4.params.toList Rows.semverBackSpec.vars false (#[.agg #[.int .i64 0, .int .i64 0, .int .i64 0], .string ByteArray.empty] : Array Value).toList 8 = some ([.agg [.lit (.int .i64 0), .lit (.int .i64 0), .lit (.int .i64 0)], .lit (.string [])], [], places) :=
  ⟨[], by kernel_rfl⟩
set_option maxRecDepth 100000 in
theorem lifted (os : Os) (started : os.Started) (H : Type) (enc : TypeId × Value → H) (F : Stop.Interp) :
    ReturnsInHanded {} Tryd.checked os 4 .any ((Rows.OpenSpec.upto Rows.semverBackSpec).preRow enc Tryd.prog Tryd.f4 Rows.semverBackUptoRow.domain false Rows.semverBackUptoRow.laid) (((Rows.OpenSpec.upto Rows.semverBackSpec).at F).post enc Tryd.prog Tryd.f4 false true false false) := by
  obtain ⟨places, hx⟩ := reads os enc
  refine returnsInHanded_of_row (C := Tryd.checked) (s := (Rows.OpenSpec.upto Rows.semverBackSpec)) own started (by kernel_rfl) Tryd.func4
    (witness_row_at (enc := enc) (C := Tryd.checked) false (laidWorld os) #[.agg #[.int .i64 0, .int .i64 0, .int .i64 0], .string ByteArray.empty] rfl (by kernel_rfl) (by kernel_rfl) (by kernel_rfl)
      (OpenSpec.preRow_of_cond 8 hx (by kernel_rfl) (fun k hk => by cases hk; kernel_rfl) (by kernel_rfl) (laid_met os _))) ?_
  intro W base args ds gs before hval0 hW _ hcond _ hL hsh _
  have hval : ∀ (j : Nat) t v, Tryd.f4.params[j]? = some t → args[j]? = some v → Value.okWide Tryd.prog W .any base t v := hval0
  have hW' := hW
  obtain ⟨p, q, hA0, hV, rfl, hfz, hnd⟩ := hW
  have hA : DataW.TrodAll enc Tryd.prog W 0 (fun _ => true) true Tryd.f4.params.toList args.toList ds p := hA0
  rw [Tryd.params4] at hA hval
  obtain ⟨v0, vs0, d0, ds0, p0, q0, hargs, rfl, rfl, h0, r0⟩ := trodAll_cons hA
  obtain ⟨v1, vs1, d1, ds1, p1, q1, rfl, rfl, rfl, h1, r1⟩ := trodAll_cons r0
  obtain ⟨rfl, rfl, rfl⟩ := trodAll_nil r1
  obtain rfl : args = #[v0, v1] := by cases args; simp_all
  obtain ⟨rfl, rfl⟩ := trodVars_none hV
  have g0 := h0
  have g1 := h1
  obtain ⟨a, b, c, rfl⟩ := open_ver (hval 0 23 v0 rfl rfl) h0
  obtain ⟨s, rfl, rfl, rfl, hs1⟩ := open_string Tryd.underlying9 (hval 1 9 v1 rfl rfl) h1
  have hlt := hW'.lt
  clear hA0 hval0
  have hk := hcond _ rfl
  have hk2 := of_decide_eq_true hk
  have hb : s.size < 4294967281 := by
    simp only [Rows.uptoBulkAll, Rows.uptoBulk, List.cons_append, List.nil_append] at hk2
    rw [len_dataV] at hk2
    omega
  refine (back_c a b c s W hb (MaxW.of hsh) (tab_of_laid hL)).mono fun e W' ⟨he, bel⟩ => ?_
  subst he
  have a0 := Below.trod laidOut (by kernel_rfl) (of_decide_eq_true (by kernel_rfl)) g0 bel (fun x hx => by first | exact absurd hx List.not_mem_nil | exact hlt x (by simp [hx]))
  have a1 := Below.trod laidOut (by kernel_rfl) (of_decide_eq_true (by kernel_rfl)) g1 bel (fun x hx => by first | exact absurd hx List.not_mem_nil | exact hlt x (by simp [hx]))
  exact ⟨_, rfl, _, _, _, [], _, [], hW', trodAll_mk1 (shut_bool Tryd.underlying4 _), (trodAll_cons_mk a0 (trodAll_cons_mk a1 trodAll_mk0)), rfl, bel.frame _, fun h => by cases h⟩
theorem said : Rows.SemverBackUptoSaid :=
  OpenClaim.holds_of_cond 4 Tryd.f4 rfl rfl rfl rfl rfl rfl rfl ⟨rfl, rfl, rfl, rfl, rfl⟩ rfl rfl rfl rfl rfl (by kernel_rfl) Tryd.func4 (by kernel_rfl)
    (of_decide_eq_true (by kernel_rfl)) (by unfold Func.isWrapper; first | (rw [if_pos (by decide +kernel)]; kernel_rfl) | (rw [if_neg (by decide +kernel)]; exact ⟨rfl, rfl⟩))
    (fun os started H enc _ F => by rw [OpenClaim.pre_eq_preRow]; exact lifted os started H enc F)
end backUpto
theorem back_holds : Rows.SemverBackUptoCardSaid :=
  Claim7.holds_tied_plain_at .later [] _ _ _ _ backUpto.said (fun _ h => by cases h) (by kernel_rfl) (fun _ h => by cases h) semverBackUpto_row_tie rfl ⟨rfl, rfl⟩ (by kernel_rfl) rfl
    (fun f fn hf hfn => by
      obtain rfl : f = 4 := Option.some.inj ((show (Tryd.prog).funcNamed "merlon/merlonlaw01.SemverBack" = some 4 by kernel_rfl).symm.trans hf) |>.symm
      obtain rfl : fn = Tryd.f4 := (Option.some.inj (Tryd.func4.symm.trans hfn)).symm
      exact ⟨by kernel_rfl, fun j t ht => by
        rw [Tryd.params4] at ht
        have h3 : t = 23 ∨ t = 9 := by
          rcases j with _ | _ | j
          · left; simpa using ht.symm
          · right; simpa using ht.symm
          · simp at ht
        rcases h3 with rfl | rfl
        · exact (show (Tryd.prog).wantsStandIn 23 = false by kernel_rfl)
        · exact (show (Tryd.prog).wantsStandIn 9 = false by kernel_rfl)⟩)
    (by kernel_rfl)
#print axioms back_holds
end Go.Proofs.YtlpgkldialmofaaDoor
