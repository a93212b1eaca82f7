/- An argument of type []api.Iface that reads as data reads as a row of interfaces. Plain Lean; no condition. -/
import Derived.Test.YtcohjjepigikjaaOpen
import Derived.Test.YtcohjjepigikjaaIfc
namespace Go.Proofs.Ytcohjjepigikjaa
open Go.ChangeShapes Go.WideShapes Go.ChangeAt Go.RowKit Go.Deep
section
variable {H : Type} {enc : TypeId × Value → H} {w : World} {base : Nat} {spare : Nat → Bool} {held : Bool}
set_option linter.unusedSimpArgs false
set_option linter.unusedVariables false
/-- a slice of structs of K cells -/
theorem row_trod {K : Nat} {α : Type} {e st : TypeId} (z : α) {Q : α → Array Value → Prop} (hu : (Try.prog).underlying st = some (.slice e)) (hC : Program.cellsOf Try.prog e = K) (hK : 0 < K)
    (hQ : ∀ (fuel : Nat) (cs : List Value) (x : DataW H × List MemPlace), DataW.trod enc Try.prog w base spare held fuel e cs = some x → ∃ t, Q t cs.toArray)
    {fuel : Nat} {cs : List Value} {x : DataW H × List MemPlace} (h : DataW.trod enc Try.prog w base spare held fuel st cs = some x) :
    ∃ A cap, ∃ l : List α, ∃ f : Nat → Array Value, cs = [.slice A l.length cap] ∧ l.length ≤ cap ∧ cap ≤ maxLen ∧ RowsK K w w.heap.size A l.length f ∧ ∀ i (h : i < l.length), Q l[i] (f i) := by
  rcases DataW.trod_slice hu h with ⟨rfl, -⟩ | ⟨a, len, cap, elems, rest, n, -, rfl, -, -, hlc, hcm, hel, hev, -, -⟩
  · exact ⟨none, 0, [], fun _ => #[], rfl, Nat.le_refl _, by simp [maxLen], .inl rfl, fun i hi => absurd hi (by simp)⟩
  · have hh : ∀ i, ∃ p : α × Array Value, i < len → Q p.1 p.2 ∧ p.2.size = K ∧ ∀ j, j < p.2.size → w.cell? (a.add (i * K + j)) = p.2[j]? := by
      intro i
      by_cases hi : i < len
      · have ev := hev i hi
        rw [List.getElem?_eq_getElem (by omega)] at ev
        obtain ⟨cs', hc, ht⟩ := Option.bind_eq_some_iff.1 ev
        obtain ⟨t, htc⟩ := hQ n cs' _ ht
        obtain ⟨-, hl, hat⟩ := World.cells?_some hc
        rw [hC] at hat hl
        refine ⟨(t, cs'.toArray), fun _ => ⟨htc, by simpa using hl, fun j hj => ?_⟩⟩
        have := hat j (by simpa [hl] using hj)
        rw [← Go.Deep.add_add, this]
        simp
      · exact ⟨(z, #[]), fun h => absurd h hi⟩
    obtain ⟨S, hS⟩ := Classical.axiomOfChoice hh
    have hlen : ((List.range len).map fun i => (S i).1).length = len := by simp
    refine ⟨some a, cap, (List.range len).map fun i => (S i).1, fun i => (S i).2, by rw [hlen], by omega, hcm, ?_, fun i hi => ?_⟩
    · rw [hlen]
      by_cases h0 : len = 0
      · exact .inl h0
      · have hz := (hS 0 (by omega)).2.1
        have e0 := (hS 0 (by omega)).2.2 0 (by omega)
        rw [Array.getElem?_eq_getElem (by omega)] at e0
        have := cell_lt e0
        obtain ⟨b, o, sp⟩ := a
        simp [Addr.add] at this
        obtain ⟨hb, rfl⟩ := this
        refine .inr ⟨b, o, rfl, hb, fun i hi j hj => ?_⟩
        have := (hS i hi).2.2 j hj
        rw [add_at] at this
        rw [← this, Nat.add_assoc]
    · rw [hlen] at hi
      simp only [List.getElem_map, List.getElem_range]
      exact (hS i hi).1
set_option maxRecDepth 100000 in
theorem nm_trod (fuel : Nat) (cs : List Value) (x : DataW H × List MemPlace) (h : DataW.trod enc Try.prog w base spare held fuel 43 cs = some x) : ∃ t, NmC w w.heap.size t cs.toArray := by
  obtain ⟨xs, n, rfl, -, hcl, hxl, hf⟩ := DataW.trod_struct Try.underlying43 h
  have hC : Program.cellsOf Try.prog 43 = 8 := by kernel_rfl
  have hC1 : Program.cellsOf Try.prog 9 = 1 := by kernel_rfl
  have hC2 : Program.cellsOf Try.prog 41 = 7 := by kernel_rfl
  rw [hC] at hcl
  match cs, hcl with
  | [c0, c1, c2, c3, c4, c5, c6, c7], _ =>
  match xs, hxl with
  | [y0, y1], _ =>
  have e0 : DataW.trod enc Try.prog w base spare held n 9 (([c0, c1, c2, c3, c4, c5, c6, c7].drop 0).take (Program.cellsOf Try.prog 9)) = some y0 := hf 0 _ rfl
  rw [hC1] at e0
  change DataW.trod enc Try.prog w base spare held n 9 [c0] = some y0 at e0
  have e1 : DataW.trod enc Try.prog w base spare held n 41 (([c0, c1, c2, c3, c4, c5, c6, c7].drop 1).take (Program.cellsOf Try.prog 41)) = some y1 := hf 1 _ rfl
  rw [hC2] at e1
  change DataW.trod enc Try.prog w base spare held n 41 [c1, c2, c3, c4, c5, c6, c7] = some y1 at e1
  obtain ⟨s, h0, -, w0⟩ := DataW.trod_string Try.underlying9 e0
  obtain ⟨t, ht⟩ := type_trod _ _ _ e1
  obtain ⟨na, nc, sa, sc, f, hc, -⟩ := ht.inv
  refine ⟨⟨s, t⟩, w0, na, nc, sa, sc, ?_, by rw [← hc]; exact ht⟩
  simp only [List.cons.injEq, and_true] at h0
  subst h0
  simp [tyCells] at hc
  simp [nmCells, hc]
set_option maxRecDepth 100000 in
theorem nms_trod {fuel : Nat} {cs : List Value} {x : DataW H × List MemPlace} (h : DataW.trod enc Try.prog w base spare held fuel 44 cs = some x) :
    ∃ A cap, ∃ l : List Nm, cs = [.slice A l.length cap] ∧ l.length ≤ cap ∧ cap ≤ maxLen ∧ NmsAt w w.heap.size A l := by
  obtain ⟨A, cap, l, f, h1, h2, h3, h4, h5⟩ := row_trod (K := 8) (Q := NmC w w.heap.size) ⟨{ data := #[] }, .mk 0 { data := #[] } 0 { data := #[] } { data := #[] } [] []⟩ Try.underlying44 (by kernel_rfl) (by decide) nm_trod h
  exact ⟨A, cap, l, h1, h2, h3, f, h4, h5⟩
set_option maxRecDepth 100000 in
theorem if_trod (fuel : Nat) (cs : List Value) (x : DataW H × List MemPlace) (h : DataW.trod enc Try.prog w base spare held fuel 46 cs = some x) : ∃ t, IfC w w.heap.size t cs.toArray := by
  obtain ⟨xs, n, rfl, -, hcl, hxl, hf⟩ := DataW.trod_struct Try.underlying46 h
  have hC : Program.cellsOf Try.prog 46 = 5 := by kernel_rfl
  have hC1 : Program.cellsOf Try.prog 9 = 1 := by kernel_rfl
  have hC2 : Program.cellsOf Try.prog 3 = 1 := by kernel_rfl
  have hC3 : Program.cellsOf Try.prog 44 = 1 := by kernel_rfl
  rw [hC] at hcl
  match cs, hcl with
  | [c0, c1, c2, c3, c4], _ =>
  match xs, hxl with
  | [y0, y1, y2, y3, y4], _ =>
  have e0 : DataW.trod enc Try.prog w base spare held n 9 (([c0, c1, c2, c3, c4].drop 0).take (Program.cellsOf Try.prog 9)) = some y0 := hf 0 _ rfl
  rw [hC1] at e0
  change DataW.trod enc Try.prog w base spare held n 9 [c0] = some y0 at e0
  have e1 : DataW.trod enc Try.prog w base spare held n 3 (([c0, c1, c2, c3, c4].drop 1).take (Program.cellsOf Try.prog 3)) = some y1 := hf 1 _ rfl
  rw [hC2] at e1
  change DataW.trod enc Try.prog w base spare held n 3 [c1] = some y1 at e1
  have e2 : DataW.trod enc Try.prog w base spare held n 9 (([c0, c1, c2, c3, c4].drop 2).take (Program.cellsOf Try.prog 9)) = some y2 := hf 2 _ rfl
  rw [hC1] at e2
  change DataW.trod enc Try.prog w base spare held n 9 [c2] = some y2 at e2
  have e3 : DataW.trod enc Try.prog w base spare held n 44 (([c0, c1, c2, c3, c4].drop 3).take (Program.cellsOf Try.prog 44)) = some y3 := hf 3 _ rfl
  rw [hC3] at e3
  change DataW.trod enc Try.prog w base spare held n 44 [c3] = some y3 at e3
  have e4 : DataW.trod enc Try.prog w base spare held n 44 (([c0, c1, c2, c3, c4].drop 4).take (Program.cellsOf Try.prog 44)) = some y4 := hf 4 _ rfl
  rw [hC3] at e4
  change DataW.trod enc Try.prog w base spare held n 44 [c4] = some y4 at e4
  clear hf h
  obtain ⟨pk, h0, -, w0⟩ := DataW.trod_string Try.underlying9 e0
  obtain ⟨mj, h1, -, w1⟩ := DataW.trod_int Try.underlying3 e1
  obtain ⟨mo, h2, -, w2⟩ := DataW.trod_string Try.underlying9 e2
  obtain ⟨ta, tc, tl, h3, htc, htm, hT⟩ := nms_trod e3
  obtain ⟨va, vc, vl, h4, hvc, hvm, hV⟩ := nms_trod e4
  simp only [List.cons.injEq, and_true] at h0 h1 h2 h3 h4
  subst h0 h1 h2 h3 h4
  exact ⟨⟨pk, mj, mo, tl, vl⟩, ⟨w0, w2, bounds_i64 w1, Nat.le_trans htc htm, Nat.le_trans hvc hvm⟩, ta, tc, va, vc, rfl, hT, hV, htc, hvc⟩
set_option maxRecDepth 100000 in
theorem ifs_trod {fuel : Nat} {cs : List Value} {x : DataW H × List MemPlace} (h : DataW.trod enc Try.prog w base spare held fuel 22 cs = some x) :
    ∃ A cap, ∃ l : List If, cs = [.slice A l.length cap] ∧ l.length ≤ cap ∧ cap ≤ maxLen ∧ IfsAt w w.heap.size A l := by
  obtain ⟨A, cap, l, f, h1, h2, h3, h4, h5⟩ := row_trod (K := 5) (Q := IfC w w.heap.size) ⟨{ data := #[] }, 0, { data := #[] }, [], []⟩ Try.underlying22 (by kernel_rfl) (by decide) if_trod h
  exact ⟨A, cap, l, h1, h2, h3, f, h4, h5⟩
set_option maxRecDepth 100000 in
theorem open_ifs {r : Reach} {b0 : Nat} {v : Value} {d : DataW H} {p : List MemPlace} (hv : Value.okWide Try.prog w r b0 22 v) (h : DataW.Trod enc Try.prog w base spare held 22 v d p) :
    ∃ A cap, ∃ l : List If, v = .slice A l.length cap ∧ l.length ≤ cap ∧ cap ≤ maxLen ∧ IfsAt w w.heap.size A l := by
  obtain ⟨a0, len, cap0, rfl⟩ := okWide_slice Try.underlying22 hv
  obtain ⟨fuel, hf⟩ := h
  obtain ⟨A, cap, l, h1, h2, h3, h4⟩ := ifs_trod hf
  simp only [Value.cells, List.cons.injEq, and_true] at h1
  exact ⟨A, cap, l, h1, h2, h3, h4⟩
end
end Go.Proofs.Ytcohjjepigikjaa
