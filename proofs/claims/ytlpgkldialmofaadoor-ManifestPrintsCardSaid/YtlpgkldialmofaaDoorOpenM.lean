/- An argument of type api.Manifest that reads as data reads as a name, a version and a row of deps. Plain Lean; no condition. -/
import Derived.Test.YtlpgkldialmofaaDoorMayM
import Derived.ProofKit
import Derived.OpenShut
import Derived.ShutString
import Derived.ChangeOld
import Derived.Below
import Derived.Deep.Slices
import Derived.Deep.Fields
import Derived.ChangeSame
namespace Go.Proofs.YtlpgkldialmofaaDoor
open Go.ChangeShapes Go.WideShapes Go.ChangeAt Go.RowKit Go.Deep
namespace OpM
set_option linter.unusedSimpArgs false
set_option linter.unusedVariables false
theorem cellA_lt {w : World} {p : Addr} {v : Value} (h : w.cell? p = some v) : p.block < w.heap.size ∧ p.spot = none := by
  unfold World.cell? at h
  split at h
  · rename_i h1
    refine ⟨(Array.getElem?_eq_some_iff.1 h1).1, ?_⟩
    cases hs : p.spot with
    | none => rfl
    | some x => rw [hs] at h; simp at h
  · simp at h
theorem addA_at {b o : Nat} (n : Nat) : Addr.add ⟨b, o, none⟩ n = ⟨b, o + n, none⟩ := by
  unfold Addr.add
  split <;> simp_all
section
variable {H : Type} {enc : TypeId × Value → H} {w : World} {base : Nat} {spare : Nat → Bool} {held : Bool}
set_option maxRecDepth 100000 in
theorem ver_trod {n : Nat} {cs : List Value} {x : DataW H × List MemPlace} (h : DataW.trod enc Tryd.prog w base spare held n 23 cs = some x) : ∃ a b c : Int, cs = [.int .i64 a, .int .i64 b, .int .i64 c] := by
  obtain ⟨xs, n, rfl, -, hcl, hxl, hf⟩ := DataW.trod_struct Tryd.underlying23 h
  have hC : Program.cellsOf Tryd.prog 23 = 3 := by kernel_rfl
  have hC1 : Program.cellsOf Tryd.prog 3 = 1 := by kernel_rfl
  rw [hC] at hcl
  match cs, hcl with
  | [c0, c1, c2], _ =>
  match xs, hxl with
  | [y0, y1, y2], _ =>
  have e0 : DataW.trod enc Tryd.prog w base spare held n 3 (([c0, c1, c2].drop 0).take (Program.cellsOf Tryd.prog 3)) = some y0 := hf 0 _ rfl
  have e1 : DataW.trod enc Tryd.prog w base spare held n 3 (([c0, c1, c2].drop 1).take (Program.cellsOf Tryd.prog 3)) = some y1 := hf 1 _ rfl
  have e2 : DataW.trod enc Tryd.prog w base spare held n 3 (([c0, c1, c2].drop 2).take (Program.cellsOf Tryd.prog 3)) = some y2 := hf 2 _ rfl
  rw [hC1] at e0 e1 e2
  obtain ⟨x, h0, -, -⟩ := DataW.trod_int Tryd.underlying3 e0
  obtain ⟨y, h1, -, -⟩ := DataW.trod_int Tryd.underlying3 e1
  obtain ⟨z, h2, -, -⟩ := DataW.trod_int Tryd.underlying3 e2
  simp at h0 h1 h2
  subst h0 h1 h2
  exact ⟨x, y, z, rfl⟩
set_option maxRecDepth 100000 in
theorem rng_trod {n : Nat} {cs : List Value} {x : DataW H × List MemPlace} (h : DataW.trod enc Tryd.prog w base spare held n 40 cs = some x) : ∃ a b c d e f : Int, cs = [.int .i64 a, .int .i64 b, .int .i64 c, .int .i64 d, .int .i64 e, .int .i64 f] := by
  obtain ⟨xs, n, rfl, -, hcl, hxl, hf⟩ := DataW.trod_struct Tryd.underlying40 h
  have hC : Program.cellsOf Tryd.prog 40 = 6 := by kernel_rfl
  have hC1 : Program.cellsOf Tryd.prog 23 = 3 := by kernel_rfl
  rw [hC] at hcl
  match cs, hcl with
  | [c0, c1, c2, c3, c4, c5], _ =>
  match xs, hxl with
  | [y0, y1], _ =>
  have e0 : DataW.trod enc Tryd.prog w base spare held n 23 (([c0, c1, c2, c3, c4, c5].drop 0).take (Program.cellsOf Tryd.prog 23)) = some y0 := hf 0 _ rfl
  have e1 : DataW.trod enc Tryd.prog w base spare held n 23 (([c0, c1, c2, c3, c4, c5].drop 3).take (Program.cellsOf Tryd.prog 23)) = some y1 := hf 1 _ rfl
  rw [hC1] at e0 e1
  obtain ⟨a, b, c, h0⟩ := ver_trod e0
  obtain ⟨d, e, f, h1⟩ := ver_trod e1
  simp at h0 h1
  obtain ⟨rfl, rfl, rfl⟩ := h0
  obtain ⟨rfl, rfl, rfl⟩ := h1
  exact ⟨a, b, c, d, e, f, rfl⟩
set_option maxRecDepth 100000 in
theorem dep_trod {n : Nat} {cs : List Value} {x : DataW H × List MemPlace} (h : DataW.trod enc Tryd.prog w base spare held n 67 cs = some x) : ∃ d : Dp, cs = (depV d.1 d.2).toList ∧ d.1.size ≤ maxLen := by
  obtain ⟨xs, n, rfl, -, hcl, hxl, hf⟩ := DataW.trod_struct Tryd.underlying67 h
  have hC : Program.cellsOf Tryd.prog 67 = 7 := by kernel_rfl
  have hC1 : Program.cellsOf Tryd.prog 9 = 1 := by kernel_rfl
  have hC2 : Program.cellsOf Tryd.prog 40 = 6 := by kernel_rfl
  rw [hC] at hcl
  match cs, hcl with
  | [c0, c1, c2, c3, c4, c5, c6], _ =>
  match xs, hxl with
  | [y0, y1], _ =>
  have e0 : DataW.trod enc Tryd.prog w base spare held n 9 (([c0, c1, c2, c3, c4, c5, c6].drop 0).take (Program.cellsOf Tryd.prog 9)) = some y0 := hf 0 _ rfl
  have e1 : DataW.trod enc Tryd.prog w base spare held n 40 (([c0, c1, c2, c3, c4, c5, c6].drop 1).take (Program.cellsOf Tryd.prog 40)) = some y1 := hf 1 _ rfl
  rw [hC1] at e0
  rw [hC2] at e1
  change DataW.trod enc Tryd.prog w base spare held n 9 [c0] = some y0 at e0
  change DataW.trod enc Tryd.prog w base spare held n 40 [c1, c2, c3, c4, c5, c6] = some y1 at e1
  obtain ⟨s, h0, -, hs⟩ := DataW.trod_string Tryd.underlying9 e0
  obtain ⟨a, b, c, d, e, f, h1⟩ := rng_trod e1
  simp only [List.cons.injEq, and_true] at h0 h1
  obtain ⟨rfl, rfl, rfl, rfl, rfl, rfl⟩ := h1
  subst h0
  exact ⟨(s, ((a, b, c), (d, e, f))), rfl, hs⟩
set_option maxRecDepth 100000 in
theorem deps_trod {fuel : Nat} {cs : List Value} {x : DataW H × List MemPlace} (h : DataW.trod enc Tryd.prog w base spare held fuel 47 cs = some x) :
    ∃ A cap ds, cs = [.slice A (List.length ds) cap] ∧ ds.length ≤ cap ∧ ds.length ≤ maxLen ∧ DepsAt w A ds ∧ ∀ d ∈ ds, d.1.size ≤ maxLen := by
  have hC : Program.cellsOf Tryd.prog 67 = 7 := by kernel_rfl
  rcases DataW.trod_slice Tryd.underlying47 h with ⟨rfl, -⟩ | ⟨a, len, cap, elems, rest, n, -, rfl, -, -, hlc, hcm, hel, hev, -, -⟩
  · exact ⟨none, 0, [], rfl, Nat.le_refl _, by simp [maxLen], .inl rfl, fun s hs => by cases hs⟩
  · have h1 : ∀ i, ∃ d : Dp, i < len → (∀ j, j < 7 → w.cell? (a.add (i * 7 + j)) = (depV d.1 d.2)[j]?) ∧ d.1.size ≤ maxLen := by
      intro i
      by_cases hi : i < len
      · have e := hev i hi
        rw [List.getElem?_eq_getElem (by omega)] at e
        obtain ⟨cs', hc, ht⟩ := Option.bind_eq_some_iff.1 e
        obtain ⟨d, rfl, hd⟩ := dep_trod ht
        obtain ⟨-, hl, hat⟩ := World.cells?_some hc
        rw [hC] at hat
        refine ⟨d, fun _ => ⟨fun j hj => ?_, hd⟩⟩
        have g := hat j hj
        rw [Go.Deep.add_add] at g
        rw [g]
        simp
      · exact ⟨(ByteArray.empty, ((0, 0, 0), (0, 0, 0))), fun h => absurd h hi⟩
    obtain ⟨S, hS⟩ := Classical.axiomOfChoice h1
    have hlen : ((List.range len).map S).length = len := by simp
    refine ⟨some a, cap, (List.range len).map S, by rw [hlen], by omega, by omega, ?_, fun s hs => ?_⟩
    · by_cases h0 : len = 0
      · exact .inl (by rw [h0]; rfl)
      · have e0 := (hS 0 (by omega)).1 0 (by decide)
        have := cellA_lt (e0.trans (show (depV (S 0).1 (S 0).2)[0]? = some (.string (S 0).1) from rfl))
        obtain ⟨b, o, sp⟩ := a
        simp [Addr.add] at this
        obtain ⟨hb, rfl⟩ := this
        exact .inr ⟨b, o, rfl, hb, fun i hi j hj => by rw [Nat.add_assoc, ← addA_at, (hS i (by simpa using hi)).1 j hj]; simp⟩
    · simp only [List.mem_map, List.mem_range] at hs
      obtain ⟨i, hi, rfl⟩ := hs
      exact (hS i hi).2
set_option maxRecDepth 100000 in
/-- an argument api.Manifest is a name, a version, a row of deps -/
theorem open_man {r : Reach} {b0 : Nat} {v : Value} {d : DataW H} {p : List MemPlace} (hv : Value.okWide Tryd.prog w r b0 49 v) (h : DataW.Trod enc Tryd.prog w base spare held 49 v d p) :
    ∃ s v1 v2 v3 A cap ds, v = .agg (manV s v1 v2 v3 A (List.length ds) cap) ∧ ds.length ≤ maxLen ∧ s.size ≤ maxLen ∧ DepsAt w A ds ∧ ∀ d ∈ ds, d.1.size ≤ maxLen := by
  obtain ⟨cs, rfl, hsz⟩ := okWide_struct Tryd.underlying49 hv
  obtain ⟨fuel, hf⟩ := h
  obtain ⟨xs, n, rfl, -, hcl, hxl, hf⟩ := DataW.trod_struct Tryd.underlying49 hf
  have hC : Program.cellsOf Tryd.prog 49 = 5 := by kernel_rfl
  have hC1 : Program.cellsOf Tryd.prog 9 = 1 := by kernel_rfl
  have hC2 : Program.cellsOf Tryd.prog 23 = 3 := by kernel_rfl
  have hC3 : Program.cellsOf Tryd.prog 47 = 1 := by kernel_rfl
  rw [hC] at hcl
  have e : (Value.agg cs).cells.toList = cs.toList := by simp [Value.cells]
  rw [e] at hcl hf
  obtain ⟨l⟩ := cs
  change l.length = 5 at hcl
  match l, hcl with
  | [c0, c1, c2, c3, c4], _ =>
  match xs, hxl with
  | [y0, y1, y2], _ =>
  have e0 : DataW.trod enc Tryd.prog w base spare held n 9 (([c0, c1, c2, c3, c4].drop 0).take (Program.cellsOf Tryd.prog 9)) = some y0 := hf 0 _ rfl
  have e1 : DataW.trod enc Tryd.prog w base spare held n 23 (([c0, c1, c2, c3, c4].drop 1).take (Program.cellsOf Tryd.prog 23)) = some y1 := hf 1 _ rfl
  have e2 : DataW.trod enc Tryd.prog w base spare held n 47 (([c0, c1, c2, c3, c4].drop 4).take (Program.cellsOf Tryd.prog 47)) = some y2 := hf 2 _ rfl
  rw [hC1] at e0
  rw [hC2] at e1
  rw [hC3] at e2
  change DataW.trod enc Tryd.prog w base spare held n 9 [c0] = some y0 at e0
  change DataW.trod enc Tryd.prog w base spare held n 23 [c1, c2, c3] = some y1 at e1
  change DataW.trod enc Tryd.prog w base spare held n 47 [c4] = some y2 at e2
  obtain ⟨s, h0, -, hs⟩ := DataW.trod_string Tryd.underlying9 e0
  obtain ⟨a, b, c, h1⟩ := ver_trod e1
  obtain ⟨A, cap, ds, h2, h3, h4, h5, h6⟩ := deps_trod e2
  simp only [List.cons.injEq, and_true] at h0 h1 h2
  obtain ⟨rfl, rfl, rfl⟩ := h1
  subst h0 h2
  exact ⟨s, a, b, c, A, cap, ds, rfl, h4, hs, h5, h6⟩
end
end OpM
end Go.Proofs.YtlpgkldialmofaaDoor
