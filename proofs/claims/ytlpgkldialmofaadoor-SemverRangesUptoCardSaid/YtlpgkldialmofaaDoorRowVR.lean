/- The statement SemverRanges, second form: for any range, version and texts of bulk at most 1048576 the law returns true and leaves its arguments as they were; the premise: the listed tables are as the program lays them (the card ties this). -/
import Derived.Test.YtlpgkldialmofaaDoorRows
import Derived.Test.YtlpgkldialmofaaDoorCards
import Derived.Test.YtlpgkldialmofaaDoorTie
import Derived.Test.YtlpgkldialmofaaDoorLawVR
import Derived.ProofKit
import Derived.OpenShut
import Derived.ShutString
import Derived.ChangeOld
import Derived.Below
import Derived.Deep.Slices
import Derived.Deep.Fields
import Derived.ChangeSame
import Derived.ChangeVars
import Derived.ChangeMaps
import Derived.JoinedOf
import Derived.LaidLaws
import Derived.LaidHandle
import Derived.HandedShaped
import Derived.Lib.LaidTab
import Derived.Stop.LaidErr
import Derived.Stop.Joined
import Derived.Deep.DeepLaidRun
import Derived.Deep.DeepHandedRow
import Derived.SevenTiedAt
namespace Go.Proofs.YtlpgkldialmofaaDoor
open Go.ChangeShapes Go.WideShapes Go.ChangeAt Go.RowKit
open Go.ChangeMaps (open_string shut_string)
namespace rangesUpto
theorem own : ownKnob Tryd.prog.godebug = none := by kernel_rfl
theorem laidOut : laidOutB Tryd.prog = true := by kernel_rfl
def put0 (h : Array Obj) (g : Nat) (cs : Array Value) : Array Obj := h.modify g fun
  | .cells _ t frozen => .cells cs t frozen
  | o => o
def num1 (d : DataW Unit) : List Value := match d with
  | .lit (.int k n) => [Value.int k n]
  | _ => []
def num2 (d : DataW Unit) : List Value := match d with
  | .agg l => l.flatMap num1
  | x => num1 x
def dat (d : DataW Unit) : Array Value := match d with
  | .agg l => (l.flatMap num2).toArray
  | _ => #[]
/-- a world that meets the condition: the settled one, the listed tables laid -/
noncomputable def laidWorld (os : Os) : World :=
  let w0 := World.holding Tryd.prog os ⟨#[], #[], []⟩
  { w0 with heap := put0 (put0 (put0 (put0 (put0 (w0.heap) 4 (dat Rows.laid_math_bits_deBruijn32tab)) 5 (dat Rows.laid_math_bits_deBruijn64tab)) 1 (dat Rows.laid_internal_strconv_uint64pow10)) 3 (dat Rows.laid_unicode_utf8_acceptRanges)) 2 (dat Rows.laid_unicode_utf8_first) }
theorem laid_met (os : Os) (args : Array Value) : laidMetH Tryd.prog Rows.semverRangesUptoRow.laid ((laidWorld os).forCall (fun _ _ => 0) ⟨#[], args, []⟩).memory :=
  (laidMet_of_run3 10 (by kernel_rfl) (by kernel_rfl) (by kernel_rfl) : laidMet Tryd.prog Rows.semverRangesUptoRow.laid ((laidWorld os).forCall (fun _ _ => 0) ⟨#[], args, []⟩).memory)
theorem tab_type : (Tryd.prog.globals[1]?).map (·.type) = some 118 := by kernel_rfl
theorem tab_of_laid {W : World} (h : laidMetH Tryd.prog Rows.semverRangesUptoRow.laid W) : TabW W := by
  have h1 : laidMet Tryd.prog Rows.semverRangesUptoRow.laid W := h
  have h2 := h1.tail.tail
  exact ⟨_, (by kernel_rfl), Lib.tabIs_of_head (g := 1) (by kernel_rfl) tab_type Tryd.underlying118 Tryd.underlying98 (by kernel_rfl) (by kernel_rfl) h2⟩
section
variable {H : Type} {enc : TypeId × Value → H}
set_option maxRecDepth 100000 in
/-- an argument api.Version is three numbers -/
theorem open_ver {w : World} {base : Nat} {spare : Nat → Bool} {held : Bool} {r : Reach} {b0 : Nat} {v : Value} {d : DataW H} {p : List MemPlace} (hv : Value.okWide Tryd.prog w r b0 23 v) (h : DataW.Trod enc Tryd.prog w base spare held 23 v d p) :
    ∃ x y z, v = .agg (ver x y z) := by
  obtain ⟨cs, rfl, hsz⟩ := okWide_struct Tryd.underlying23 hv
  obtain ⟨fuel, hf⟩ := h
  obtain ⟨xs, n, rfl, -, hcl, hxl, hf⟩ := DataW.trod_struct Tryd.underlying23 hf
  have hC : Program.cellsOf Tryd.prog 23 = 3 := by kernel_rfl
  have hC1 : Program.cellsOf Tryd.prog 3 = 1 := by kernel_rfl
  rw [hC] at hcl
  have e : (Value.agg cs).cells.toList = cs.toList := by simp [Value.cells]
  rw [e] at hcl hf
  obtain ⟨l⟩ := cs
  change l.length = 3 at hcl
  match l, hcl with
  | [c0, c1, c2], _ =>
  match xs, hxl with
  | [y0, y1, y2], _ =>
  have e0 : DataW.trod enc Tryd.prog w base spare held n 3 (([c0, c1, c2].drop 0).take (Program.cellsOf Tryd.prog 3)) = some y0 := hf 0 _ rfl
  have e1 : DataW.trod enc Tryd.prog w base spare held n 3 (([c0, c1, c2].drop 1).take (Program.cellsOf Tryd.prog 3)) = some y1 := hf 1 _ rfl
  have e2 : DataW.trod enc Tryd.prog w base spare held n 3 (([c0, c1, c2].drop 2).take (Program.cellsOf Tryd.prog 3)) = some y2 := hf 2 _ rfl
  rw [hC1] at e0 e1 e2
  obtain ⟨x, h0, -, -⟩ := DataW.trod_int Tryd.underlying3 e0
  obtain ⟨y, h1, -, -⟩ := DataW.trod_int Tryd.underlying3 e1
  obtain ⟨z, h2, -, -⟩ := DataW.trod_int Tryd.underlying3 e2
  simp at h0 h1 h2
  subst h0 h1 h2
  exact ⟨x, y, z, rfl⟩
end
section
variable {H : Type} {enc : TypeId × Value → H} {w : World} {base : Nat} {spare : Nat → Bool} {held : Bool}
set_option maxRecDepth 100000 in
theorem ver_trod {n : Nat} {cs : List Value} {x : DataW H × List MemPlace} (h : DataW.trod enc Tryd.prog w base spare held n 23 cs = some x) : ∃ a b c : Int, cs = [.int .i64 a, .int .i64 b, .int .i64 c] := by
  obtain ⟨xs, n, rfl, -, hcl, hxl, hf⟩ := DataW.trod_struct Tryd.underlying23 h
  have hC : Program.cellsOf Tryd.prog 23 = 3 := by kernel_rfl
  have hC1 : Program.cellsOf Tryd.prog 3 = 1 := by kernel_rfl
  rw [hC] at hcl
  match cs, hcl with
  | [c0, c1, c2], _ =>
  match xs, hxl with
  | [y0, y1, y2], _ =>
  have e0 : DataW.trod enc Tryd.prog w base spare held n 3 (([c0, c1, c2].drop 0).take (Program.cellsOf Tryd.prog 3)) = some y0 := hf 0 _ rfl
  have e1 : DataW.trod enc Tryd.prog w base spare held n 3 (([c0, c1, c2].drop 1).take (Program.cellsOf Tryd.prog 3)) = some y1 := hf 1 _ rfl
  have e2 : DataW.trod enc Tryd.prog w base spare held n 3 (([c0, c1, c2].drop 2).take (Program.cellsOf Tryd.prog 3)) = some y2 := hf 2 _ rfl
  rw [hC1] at e0 e1 e2
  obtain ⟨x, h0, -, -⟩ := DataW.trod_int Tryd.underlying3 e0
  obtain ⟨y, h1, -, -⟩ := DataW.trod_int Tryd.underlying3 e1
  obtain ⟨z, h2, -, -⟩ := DataW.trod_int Tryd.underlying3 e2
  simp at h0 h1 h2
  subst h0 h1 h2
  exact ⟨x, y, z, rfl⟩
set_option maxRecDepth 100000 in
theorem rng_trod {n : Nat} {cs : List Value} {x : DataW H × List MemPlace} (h : DataW.trod enc Tryd.prog w base spare held n 40 cs = some x) : ∃ a b c d e f : Int, cs = [.int .i64 a, .int .i64 b, .int .i64 c, .int .i64 d, .int .i64 e, .int .i64 f] := by
  obtain ⟨xs, n, rfl, -, hcl, hxl, hf⟩ := DataW.trod_struct Tryd.underlying40 h
  have hC : Program.cellsOf Tryd.prog 40 = 6 := by kernel_rfl
  have hC1 : Program.cellsOf Tryd.prog 23 = 3 := by kernel_rfl
  rw [hC] at hcl
  match cs, hcl with
  | [c0, c1, c2, c3, c4, c5], _ =>
  match xs, hxl with
  | [y0, y1], _ =>
  have e0 : DataW.trod enc Tryd.prog w base spare held n 23 (([c0, c1, c2, c3, c4, c5].drop 0).take (Program.cellsOf Tryd.prog 23)) = some y0 := hf 0 _ rfl
  have e1 : DataW.trod enc Tryd.prog w base spare held n 23 (([c0, c1, c2, c3, c4, c5].drop 3).take (Program.cellsOf Tryd.prog 23)) = some y1 := hf 1 _ rfl
  rw [hC1] at e0 e1
  obtain ⟨a, b, c, h0⟩ := ver_trod e0
  obtain ⟨d, e, f, h1⟩ := ver_trod e1
  simp at h0 h1
  obtain ⟨rfl, rfl, rfl⟩ := h0
  obtain ⟨rfl, rfl, rfl⟩ := h1
  exact ⟨a, b, c, d, e, f, rfl⟩
set_option maxRecDepth 100000 in
/-- an argument api.Range is six numbers -/
theorem open_rng {r : Reach} {b0 : Nat} {v : Value} {d : DataW H} {p : List MemPlace} (hv : Value.okWide Tryd.prog w r b0 40 v) (h : DataW.Trod enc Tryd.prog w base spare held 40 v d p) :
    ∃ a1 a2 a3 b1 b2 b3, v = .agg (rng a1 a2 a3 b1 b2 b3) := by
  obtain ⟨cs, rfl, hsz⟩ := okWide_struct Tryd.underlying40 hv
  obtain ⟨fuel, hf⟩ := h
  have e : (Value.agg cs).cells.toList = cs.toList := by simp [Value.cells]
  rw [e] at hf
  obtain ⟨a, b, c, d, e, f, h1⟩ := rng_trod hf
  refine ⟨a, b, c, d, e, f, ?_⟩
  rw [show cs = cs.toList.toArray by simp, h1]
  rfl
end
theorem reads (os : Os) {H : Type} (enc : TypeId × Value → H) : ∃ places, DataW.whole enc Tryd.prog ((laidWorld os).forCall (fun _ _ => 0) ⟨#[], #[.agg #[.int .i64 0, .int .i64 0, .int .i64 0, .int .i64 0, .int .i64 0, .int .i64 0], .agg #[.int .i64 0, .int .i64 0, .int .i64 0], .string ByteArray.empty, .string ByteArray.empty], []⟩).memory Tryd.f5.params.toList Rows.semverRangesSpec.vars false (#[.agg #[.int .i64 0, .int .i64 0, .int .i64 0, .int .i64 0, .int .i64 0, .int .i64 0], .agg #[.int .i64 0, .int .i64 0, .int .i64 0], .string ByteArray.empty, .string ByteArray.empty] : Array Value).toList 8 = some ([.agg [.agg [.lit (.int .i64 0), .lit (.int .i64 0), .lit (.int .i64 0)], .agg [.lit (.int .i64 0), .lit (.int .i64 0), .lit (.int .i64 0)]], .agg [.lit (.int .i64 0), .lit (.int .i64 0), .lit (.int .i64 0)], .lit (.string []), .lit (.string [])], [], places) :=
  ⟨[], by kernel_rfl⟩
set_option maxRecDepth 100000 in
theorem lifted (os : Os) (started : os.Started) (H : Type) (enc : TypeId × Value → H) (F : Stop.Interp) :
    ReturnsInHanded {} Tryd.checked os 5 .any ((Rows.OpenSpec.upto Rows.semverRangesSpec).preRow enc Tryd.prog Tryd.f5 Rows.semverRangesUptoRow.domain false Rows.semverRangesUptoRow.laid) (((Rows.OpenSpec.upto Rows.semverRangesSpec).at F).post enc Tryd.prog Tryd.f5 false true false false) := by
  obtain ⟨places, hx⟩ := reads os enc
  refine returnsInHanded_of_row (C := Tryd.checked) (s := (Rows.OpenSpec.upto Rows.semverRangesSpec)) own started (by kernel_rfl) Tryd.func5
    (witness_row_at (enc := enc) (C := Tryd.checked) false (laidWorld os) #[.agg #[.int .i64 0, .int .i64 0, .int .i64 0, .int .i64 0, .int .i64 0, .int .i64 0], .agg #[.int .i64 0, .int .i64 0, .int .i64 0], .string ByteArray.empty, .string ByteArray.empty] rfl (by kernel_rfl) (by kernel_rfl) (by kernel_rfl)
      (OpenSpec.preRow_of_cond 8 hx (by kernel_rfl) (fun k hk => by cases hk; kernel_rfl) (by kernel_rfl) (laid_met os _))) ?_
  intro W base args ds gs before hval0 hW _ hcond _ hL hsh _
  have hval : ∀ (j : Nat) t v, Tryd.f5.params[j]? = some t → args[j]? = some v → Value.okWide Tryd.prog W .any base t v := hval0
  have hW' := hW
  obtain ⟨p, q, hA0, hV, rfl, hfz, hnd⟩ := hW
  have hA : DataW.TrodAll enc Tryd.prog W 0 (fun _ => true) true Tryd.f5.params.toList args.toList ds p := hA0
  rw [Tryd.params5] at hA hval
  obtain ⟨v0, vs0, d0, ds0, p0, q0, hargs, rfl, rfl, h0, r0⟩ := trodAll_cons hA
  obtain ⟨v1, vs1, d1, ds1, p1, q1, rfl, rfl, rfl, h1, r1⟩ := trodAll_cons r0
  obtain ⟨v2, vs2, d2, ds2, p2, q2, rfl, rfl, rfl, h2, r2⟩ := trodAll_cons r1
  obtain ⟨v3, vs3, d3, ds3, p3, q3, rfl, rfl, rfl, h3, r3⟩ := trodAll_cons r2
  obtain ⟨rfl, rfl, rfl⟩ := trodAll_nil r3
  obtain rfl : args = #[v0, v1, v2, v3] := by cases args; simp_all
  obtain ⟨rfl, rfl⟩ := trodVars_none hV
  have g0 := h0
  have g1 := h1
  have g2 := h2
  have g3 := h3
  obtain ⟨a1, a2, a3, b1, b2, b3, rfl⟩ := open_rng (hval 0 40 v0 rfl rfl) h0
  obtain ⟨c1, c2, c3, rfl⟩ := open_ver (hval 1 23 v1 rfl rfl) h1
  obtain ⟨s, rfl, rfl, rfl, hs2⟩ := open_string Tryd.underlying9 (hval 2 9 v2 rfl rfl) h2
  obtain ⟨t, rfl, rfl, rfl, hs3⟩ := open_string Tryd.underlying9 (hval 3 9 v3 rfl rfl) h3
  have hlt := hW'.lt
  clear hA0 hval0
  have hk := hcond _ rfl
  have hk2 := of_decide_eq_true hk
  have hb : s.size < 2147483640 ∧ t.size < 2147483640 := by
    simp only [Rows.uptoBulkAll, Rows.uptoBulk, List.cons_append, List.nil_append] at hk2
    rw [len_dataV, len_dataV] at hk2
    omega
  refine (ranges_c a1 a2 a3 b1 b2 b3 c1 c2 c3 s t W hb.1 hb.2 (MaxW.of hsh) (tab_of_laid hL)).mono fun e W' ⟨he, bel⟩ => ?_
  subst he
  have a0 := Below.trod laidOut (by kernel_rfl) (of_decide_eq_true (by kernel_rfl)) g0 bel (fun x hx => by first | exact absurd hx List.not_mem_nil | exact hlt x (by simp [hx]))
  have a1 := Below.trod laidOut (by kernel_rfl) (of_decide_eq_true (by kernel_rfl)) g1 bel (fun x hx => by first | exact absurd hx List.not_mem_nil | exact hlt x (by simp [hx]))
  have a2 := Below.trod laidOut (by kernel_rfl) (of_decide_eq_true (by kernel_rfl)) g2 bel (fun x hx => by first | exact absurd hx List.not_mem_nil | exact hlt x (by simp [hx]))
  have a3 := Below.trod laidOut (by kernel_rfl) (of_decide_eq_true (by kernel_rfl)) g3 bel (fun x hx => by first | exact absurd hx List.not_mem_nil | exact hlt x (by simp [hx]))
  exact ⟨_, rfl, _, _, _, [], _, [], hW', trodAll_mk1 (shut_bool Tryd.underlying4 _), (trodAll_cons_mk a0 (trodAll_cons_mk a1 (trodAll_cons_mk a2 (trodAll_cons_mk a3 trodAll_mk0)))), rfl, bel.frame _, fun h => by cases h⟩
theorem said : Rows.SemverRangesUptoSaid :=
  OpenClaim.holds_of_cond 5 Tryd.f5 rfl rfl rfl rfl rfl rfl rfl ⟨rfl, rfl, rfl, rfl, rfl⟩ rfl rfl rfl rfl rfl (by kernel_rfl) Tryd.func5 (by kernel_rfl)
    (of_decide_eq_true (by kernel_rfl)) (by unfold Func.isWrapper; first | (rw [if_pos (by decide +kernel)]; kernel_rfl) | (rw [if_neg (by decide +kernel)]; exact ⟨rfl, rfl⟩))
    (fun os started H enc _ F => by rw [OpenClaim.pre_eq_preRow]; exact lifted os started H enc F)
end rangesUpto
theorem ranges_holds : Rows.SemverRangesUptoCardSaid :=
  Claim7.holds_tied_plain_at .later [] _ _ _ _ rangesUpto.said (fun _ h => by cases h) (by kernel_rfl) (fun _ h => by cases h) semverRangesUpto_row_tie rfl ⟨rfl, rfl⟩ (by kernel_rfl) rfl
    (fun f fn hf hfn => by
      obtain rfl : f = 5 := Option.some.inj ((show (Tryd.prog).funcNamed "merlon/merlonlaw01.SemverRanges" = some 5 by kernel_rfl).symm.trans hf) |>.symm
      obtain rfl : fn = Tryd.f5 := (Option.some.inj (Tryd.func5.symm.trans hfn)).symm
      exact ⟨by kernel_rfl, fun j t ht => by
        rw [Tryd.params5] at ht
        have h3 : t = 40 ∨ t = 23 ∨ t = 9 := by
          rcases j with _ | _ | _ | _ | j
          · left; simpa using ht.symm
          · right; left; simpa using ht.symm
          · right; right; simpa using ht.symm
          · right; right; simpa using ht.symm
          · simp at ht
        rcases h3 with rfl | rfl | rfl
        · exact (show (Tryd.prog).wantsStandIn 40 = false by kernel_rfl)
        · exact (show (Tryd.prog).wantsStandIn 23 = false by kernel_rfl)
        · exact (show (Tryd.prog).wantsStandIn 9 = false by kernel_rfl)⟩)
    (by kernel_rfl)
#print axioms ranges_holds
end Go.Proofs.YtlpgkldialmofaaDoor
