/- An argument of type []api.Token that reads as data reads as a row of texts. Plain Lean; no condition. -/
import Derived.Test.YtbaoinofpiepmaaDoorJoinL
import Derived.ProofKit
import Derived.OpenShut
import Derived.ShutString
import Derived.ChangeOld
import Derived.Below
import Derived.Deep.Slices
import Derived.ChangeSame
namespace Go.Proofs.YtbaoinofpiepmaaDoor
open Go.ChangeShapes Go.WideShapes Go.ChangeAt Go.RowKit Go.Deep
theorem cellA_lt {w : World} {p : Addr} {v : Value} (h : w.cell? p = some v) : p.block < w.heap.size ∧ p.spot = none := by
  unfold World.cell? at h
  split at h
  · rename_i h1
    refine ⟨(Array.getElem?_eq_some_iff.1 h1).1, ?_⟩
    cases hs : p.spot with
    | none => rfl
    | some x => rw [hs] at h; simp at h
  · simp at h
theorem addA_at {b o : Nat} (n : Nat) : Addr.add ⟨b, o, none⟩ n = ⟨b, o + n, none⟩ := by
  unfold Addr.add
  split <;> simp_all
section
variable {H : Type} {enc : TypeId × Value → H} {w : World} {base : Nat} {spare : Nat → Bool} {held : Bool}
set_option maxRecDepth 100000 in
theorem tok_trod {fuel : Nat} {cs : List Value} {x : DataW H × List MemPlace} (h : DataW.trod enc Tryd.prog w base spare held fuel 43 cs = some x) :
    ∃ (a b : Int) (s : ByteArray), cs = [.int .i64 a, .int .i64 b, .string s] := by
  obtain ⟨xs, n, rfl, -, hcl, hxl, hf⟩ := DataW.trod_struct Tryd.underlying43 h
  have hC : Program.cellsOf Tryd.prog 43 = 3 := by kernel_rfl
  have hC1 : Program.cellsOf Tryd.prog 3 = 1 := by kernel_rfl
  have hC2 : Program.cellsOf Tryd.prog 9 = 1 := by kernel_rfl
  rw [hC] at hcl
  match cs, hcl with
  | [c0, c1, c2], _ =>
  match xs, hxl with
  | [y0, y1, y2], _ =>
  have e0 : DataW.trod enc Tryd.prog w base spare held n 3 (([c0, c1, c2].drop 0).take (Program.cellsOf Tryd.prog 3)) = some y0 := hf 0 _ rfl
  rw [hC1] at e0
  change DataW.trod enc Tryd.prog w base spare held n 3 [c0] = some y0 at e0
  have e1 : DataW.trod enc Tryd.prog w base spare held n 3 (([c0, c1, c2].drop 1).take (Program.cellsOf Tryd.prog 3)) = some y1 := hf 1 _ rfl
  rw [hC1] at e1
  change DataW.trod enc Tryd.prog w base spare held n 3 [c1] = some y1 at e1
  have e2 : DataW.trod enc Tryd.prog w base spare held n 9 (([c0, c1, c2].drop 2).take (Program.cellsOf Tryd.prog 9)) = some y2 := hf 2 _ rfl
  rw [hC2] at e2
  change DataW.trod enc Tryd.prog w base spare held n 9 [c2] = some y2 at e2
  obtain ⟨a, h0, -, -⟩ := DataW.trod_int Tryd.underlying3 e0
  obtain ⟨b, h1, -, -⟩ := DataW.trod_int Tryd.underlying3 e1
  obtain ⟨s, h2, -, -⟩ := DataW.trod_string Tryd.underlying9 e2
  simp only [List.cons.injEq, and_true] at h0 h1 h2
  subst h0 h1 h2
  exact ⟨a, b, s, rfl⟩
set_option maxRecDepth 100000 in
theorem open_toks {r : Reach} {b0 : Nat} {v : Value} {d : DataW H} {p : List MemPlace} (hv : Value.okWide Tryd.prog w r b0 23 v) (h : DataW.Trod enc Tryd.prog w base spare held 23 v d p) :
    ∃ xs, TextAt w v xs := by
  obtain ⟨a0, len, cap, rfl⟩ := okWide_slice Tryd.underlying23 hv
  obtain ⟨fuel, hf⟩ := h
  have hC : Program.cellsOf Tryd.prog 43 = 3 := by kernel_rfl
  rcases DataW.trod_slice Tryd.underlying23 hf with ⟨hcs, -⟩ | ⟨a, len', cap', elems, rest, n, -, hcs, -, -, hlc, hcm, hel, hev, -, -⟩
  · simp only [Value.cells, List.cons.injEq, and_true, Value.slice.injEq] at hcs
    obtain ⟨rfl, rfl, rfl⟩ := hcs
    exact ⟨[], none, 0, rfl, fun h => absurd h (by simp)⟩
  · simp only [Value.cells, List.cons.injEq, and_true, Value.slice.injEq] at hcs
    obtain ⟨rfl, rfl, rfl⟩ := hcs
    have h1 : ∀ i, ∃ s : ByteArray, i < len → ∃ x y : Int, w.cell? (a.add (i * 3)) = some (.int .i64 x) ∧ w.cell? (a.add (i * 3 + 1)) = some (.int .i64 y) ∧ w.cell? (a.add (i * 3 + 2)) = some (.string s) := by
      intro i
      by_cases hi : i < len
      · have e := hev i hi
        rw [List.getElem?_eq_getElem (by omega)] at e
        obtain ⟨cs', hc, ht⟩ := Option.bind_eq_some_iff.1 e
        obtain ⟨x, y, s, rfl⟩ := tok_trod ht
        obtain ⟨-, hl, hat⟩ := World.cells?_some hc
        rw [hC] at hat
        have g0 := hat 0 (by omega)
        have g1 := hat 1 (by omega)
        have g2 := hat 2 (by omega)
        rw [Go.Deep.add_add] at g0 g1 g2
        exact ⟨s, fun _ => ⟨x, y, by simpa using g0, by simpa using g1, by simpa using g2⟩⟩
      · exact ⟨ByteArray.empty, fun h => absurd h hi⟩
    obtain ⟨S, hS⟩ := Classical.axiomOfChoice h1
    have hlen : ((List.range len).map S).length = len := by simp
    refine ⟨(List.range len).map S, some a, cap, by rw [hlen], fun h0 => ?_⟩
    rw [hlen] at h0
    obtain ⟨x, y, e0, -, -⟩ := hS 0 h0
    have hb := cellA_lt e0
    obtain ⟨b, o, sp⟩ := a
    simp [Addr.add] at hb
    obtain ⟨hb, rfl⟩ := hb
    refine ⟨b, o, rfl, hb, fun i hi => ?_⟩
    rw [hlen] at hi
    obtain ⟨x, y, e0, e1, e2⟩ := hS i hi
    rw [addA_at] at e0 e1 e2
    exact ⟨⟨x, e0⟩, ⟨y, e1⟩, by rw [show o + i * 3 + 2 = o + (i * 3 + 2) from rfl, e2]; simp⟩
end
end Go.Proofs.YtbaoinofpiepmaaDoor
