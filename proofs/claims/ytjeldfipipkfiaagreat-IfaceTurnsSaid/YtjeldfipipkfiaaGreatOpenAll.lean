/- An argument of type api.Module that reads as data reads as a module. Plain Lean; no condition. -/
import Derived.Test.YtjeldfipipkfiaaGreatGMem
import Derived.Test.YtjeldfipipkfiaaGreatProg
import Derived.ProofKit
import Derived.OpenShut
import Derived.ShutString
import Derived.ChangeOld
import Derived.Below
import Derived.Deep.Slices
import Derived.Deep.Fields
import Derived.ChangeSame
import Derived.Test.YtjeldfipipkfiaaGreatGScope
namespace Go.Proofs.YtjeldfipipkfiaaGreat
open Go.ChangeShapes Go.WideShapes Go.ChangeAt Go.RowKit Go.Deep
theorem cell_lt {w : World} {p : Addr} {v : Value} (h : w.cell? p = some v) : p.block < w.heap.size ∧ p.spot = none := by
  unfold World.cell? at h
  split at h
  · rename_i h1
    refine ⟨(Array.getElem?_eq_some_iff.1 h1).1, ?_⟩
    cases hs : p.spot with
    | none => rfl
    | some x => rw [hs] at h; simp at h
  · simp at h
theorem add_at {b o : Nat} (n : Nat) : Addr.add ⟨b, o, none⟩ n = ⟨b, o + n, none⟩ := by
  unfold Addr.add
  split <;> simp_all
section
variable {H : Type} {enc : TypeId × Value → H} {w : World} {base : Nat} {spare : Nat → Bool} {held : Bool}
set_option linter.unusedSimpArgs false in
theorem strs_trod {fuel : Nat} {cs : List Value} {x : DataW H × List MemPlace} (h : DataW.trod enc Tryz.prog w base spare held fuel 50 cs = some x) :
    ∃ A cap l, cs = [.slice A (List.length l) cap] ∧ l.length ≤ cap ∧ l.length ≤ maxLen ∧ StrsAt w w.heap.size A l ∧ ∀ s ∈ l, s.size ≤ maxLen := by
  rcases DataW.trod_slice Tryz.underlying50 h with ⟨rfl, -⟩ | ⟨a, len, cap, elems, rest, n, -, rfl, -, -, hlc, hcm, hel, hev, -, -⟩
  · exact ⟨none, 0, [], rfl, Nat.le_refl _, by simp [maxLen], .inl rfl, fun s hs => by cases hs⟩
  · have h1 : ∀ i, ∃ s : ByteArray, i < len → w.cell? (a.add i) = some (.string s) ∧ s.size ≤ maxLen := by
      intro i
      by_cases hi : i < len
      · have e := hev i hi
        rw [List.getElem?_eq_getElem (by omega)] at e
        obtain ⟨cs', hc, ht⟩ := Option.bind_eq_some_iff.1 e
        obtain ⟨s, rfl, -, hs⟩ := DataW.trod_string Tryz.underlying9 ht
        obtain ⟨-, hl, hat⟩ := World.cells?_some hc
        have hC : Program.cellsOf Tryz.prog 9 = 1 := by kernel_rfl
        rw [hC] at hat
        have := hat 0 (by omega)
        rw [Nat.mul_one] at this
        exact ⟨s, fun _ => ⟨by simpa [Addr.add] using this, hs⟩⟩
      · exact ⟨ByteArray.empty, fun h => absurd h hi⟩
    obtain ⟨S, hS⟩ := Classical.axiomOfChoice h1
    have hlen : ((List.range len).map S).length = len := by simp
    refine ⟨some a, cap, (List.range len).map S, by rw [hlen], by omega, by omega, ?_, fun s hs => ?_⟩
    · by_cases h0 : len = 0
      · exact .inl (by rw [h0]; rfl)
      · have e0 := (hS 0 (by omega)).1
        have := cell_lt e0
        obtain ⟨b, o, sp⟩ := a
        simp [Addr.add] at this
        obtain ⟨hb, rfl⟩ := this
        exact .inr ⟨b, o, rfl, hb, fun i hi => by rw [← add_at, (hS i (by omega)).1]; simp⟩
    · simp only [List.mem_map, List.mem_range] at hs
      obtain ⟨i, hi, rfl⟩ := hs
      exact (hS i hi).2
set_option maxRecDepth 100000 in
theorem type_trod : ∀ (fuel : Nat) (cs : List Value) (x : DataW H × List MemPlace), DataW.trod enc Tryz.prog w base spare held fuel 53 cs = some x → ∃ t, TyC w w.heap.size t cs.toArray := by
  intro fuel
  induction fuel using Nat.strongRecOn with
  | ind fuel ih =>
  intro cs x h
  obtain ⟨xs, n, rfl, -, hcl, hxl, hf⟩ := DataW.trod_struct Tryz.underlying53 h
  have hC : Program.cellsOf Tryz.prog 53 = 7 := by kernel_rfl
  have hC1 : Program.cellsOf Tryz.prog 3 = 1 := by kernel_rfl
  have hC2 : Program.cellsOf Tryz.prog 9 = 1 := by kernel_rfl
  have hC3 : Program.cellsOf Tryz.prog 50 = 1 := by kernel_rfl
  have hC4 : Program.cellsOf Tryz.prog 51 = 1 := by kernel_rfl
  rw [hC] at hcl
  match cs, hcl with
  | [c0, c1, c2, c3, c4, c5, c6], _ =>
  match xs, hxl with
  | [y0, y1, y2, y3, y4, y5, y6], _ =>
  have e0 : DataW.trod enc Tryz.prog w base spare held n 3 (([c0, c1, c2, c3, c4, c5, c6].drop 0).take (Program.cellsOf Tryz.prog 3)) = some y0 := hf 0 _ rfl
  rw [hC1] at e0
  change DataW.trod enc Tryz.prog w base spare held n 3 [c0] = some y0 at e0
  have e1 : DataW.trod enc Tryz.prog w base spare held n 9 (([c0, c1, c2, c3, c4, c5, c6].drop 1).take (Program.cellsOf Tryz.prog 9)) = some y1 := hf 1 _ rfl
  rw [hC2] at e1
  change DataW.trod enc Tryz.prog w base spare held n 9 [c1] = some y1 at e1
  have e2 : DataW.trod enc Tryz.prog w base spare held n 3 (([c0, c1, c2, c3, c4, c5, c6].drop 2).take (Program.cellsOf Tryz.prog 3)) = some y2 := hf 2 _ rfl
  rw [hC1] at e2
  change DataW.trod enc Tryz.prog w base spare held n 3 [c2] = some y2 at e2
  have e3 : DataW.trod enc Tryz.prog w base spare held n 9 (([c0, c1, c2, c3, c4, c5, c6].drop 3).take (Program.cellsOf Tryz.prog 9)) = some y3 := hf 3 _ rfl
  rw [hC2] at e3
  change DataW.trod enc Tryz.prog w base spare held n 9 [c3] = some y3 at e3
  have e4 : DataW.trod enc Tryz.prog w base spare held n 9 (([c0, c1, c2, c3, c4, c5, c6].drop 4).take (Program.cellsOf Tryz.prog 9)) = some y4 := hf 4 _ rfl
  rw [hC2] at e4
  change DataW.trod enc Tryz.prog w base spare held n 9 [c4] = some y4 at e4
  have e5 : DataW.trod enc Tryz.prog w base spare held n 50 (([c0, c1, c2, c3, c4, c5, c6].drop 5).take (Program.cellsOf Tryz.prog 50)) = some y5 := hf 5 _ rfl
  rw [hC3] at e5
  change DataW.trod enc Tryz.prog w base spare held n 50 [c5] = some y5 at e5
  have e6 : DataW.trod enc Tryz.prog w base spare held n 51 (([c0, c1, c2, c3, c4, c5, c6].drop 6).take (Program.cellsOf Tryz.prog 51)) = some y6 := hf 6 _ rfl
  rw [hC4] at e6
  change DataW.trod enc Tryz.prog w base spare held n 51 [c6] = some y6 at e6
  clear hf h
  obtain ⟨k, h0, -, w0⟩ := DataW.trod_int Tryz.underlying3 e0
  obtain ⟨pk, h1, -, w1⟩ := DataW.trod_string Tryz.underlying9 e1
  obtain ⟨mj, h2, -, w2⟩ := DataW.trod_int Tryz.underlying3 e2
  obtain ⟨mo, h3, -, w3⟩ := DataW.trod_string Tryz.underlying9 e3
  obtain ⟨nm, h4, -, w4⟩ := DataW.trod_string Tryz.underlying9 e4
  obtain ⟨na, nc, l, h5, hnc, hnl, hst, hse⟩ := strs_trod e5
  simp only [List.cons.injEq, and_true] at h0 h1 h2 h3 h4 h5
  subst h0 h1 h2 h3 h4 h5
  clear e0 e1 e2 e3 e4 e5
  have b0 := bounds_i64 w0
  have b2 := bounds_i64 w2
  rcases DataW.trod_slice Tryz.underlying51 e6 with ⟨h6, -⟩ | ⟨a, len, cap, elems, rest, n', hn', h6, -, -, hlc, hcm, hel, hev, -, -⟩
  · simp only [List.cons.injEq, and_true] at h6
    subst h6
    exact ⟨.mk k pk mj mo nm l [], .mk _ na nc none 0 (fun _ => #[]) ⟨b0, b2, w1, w3, w4, hnl, hse, by simp [Ty.subs, maxLen]⟩ hst (.inl rfl) hnc (Nat.le_refl _) (fun i hi => absurd hi (by simp [Ty.subs]))⟩
  · simp only [List.cons.injEq, and_true] at h6
    subst h6
    have hh : ∀ i, ∃ p : Ty × Array Value, i < len → TyC w w.heap.size p.1 p.2 ∧ ∀ j, j < p.2.size → w.cell? (a.add (i * 7 + j)) = p.2[j]? := by
      intro i
      by_cases hi : i < len
      · have e := hev i hi
        rw [List.getElem?_eq_getElem (by omega)] at e
        obtain ⟨cs', hc, ht⟩ := Option.bind_eq_some_iff.1 e
        obtain ⟨t, htc⟩ := ih n' (by omega) cs' _ ht
        obtain ⟨-, hl, hat⟩ := World.cells?_some hc
        rw [hC] at hat hl
        refine ⟨(t, cs'.toArray), fun _ => ⟨htc, fun j hj => ?_⟩⟩
        have := hat j (by simpa [hl] using hj)
        rw [← Go.Deep.add_add, this]
        simp
      · exact ⟨(.mk 0 ByteArray.empty 0 ByteArray.empty ByteArray.empty [] [], #[]), fun h => absurd h hi⟩
    obtain ⟨S, hS⟩ := Classical.axiomOfChoice hh
    have hlen : ((List.range len).map fun i => (S i).1).length = len := by simp
    have hz : ∀ i, i < len → (S i).2.size = 7 := by
      intro i hi
      obtain ⟨_, _, _, _, _, hk, -⟩ := (hS i hi).1.inv
      rw [hk]; rfl
    refine ⟨.mk k pk mj mo nm l ((List.range len).map fun i => (S i).1), ?_⟩
    have := TyC.mk (w := w) (B := w.heap.size) (.mk k pk mj mo nm l ((List.range len).map fun i => (S i).1)) na nc (some a) cap (fun i => (S i).2) ⟨b0, b2, w1, w3, w4, hnl, hse, by rw [Ty.subs, hlen]; omega⟩ hst ?_ hnc (by rw [Ty.subs, hlen]; exact hlc) (fun i hi => ?_)
    · simp only [tyCells, Ty.kind, Ty.pkg, Ty.major, Ty.mod, Ty.name, Ty.names, Ty.subs, hlen] at this
      exact this
    · rw [Ty.subs, hlen]
      by_cases h0 : len = 0
      · exact .inl h0
      · have e0 := (hS 0 (by omega)).2 0 (by rw [hz 0 (by omega)]; decide)
        rw [Array.getElem?_eq_getElem (by rw [hz 0 (by omega)]; decide)] at e0
        have := cell_lt e0
        obtain ⟨b, o, sp⟩ := a
        simp [Addr.add] at this
        obtain ⟨hb, rfl⟩ := this
        refine .inr ⟨b, o, rfl, hb, fun i hi j hj => ?_⟩
        have := (hS i hi).2 j hj
        rw [add_at] at this
        rw [← this, Nat.add_assoc]
    · rw [Ty.subs, hlen] at hi
      simp only [Ty.subs, List.getElem_map, List.getElem_range]
      exact (hS i hi).1
end
end Go.Proofs.YtjeldfipipkfiaaGreat
namespace Go.Proofs.YtjeldfipipkfiaaGreat
open Go.ChangeShapes Go.WideShapes Go.ChangeAt Go.RowKit Go.Deep
section
variable {H : Type} {enc : TypeId × Value → H} {w : World} {base : Nat} {spare : Nat → Bool} {held : Bool}
set_option linter.unusedSimpArgs false
set_option linter.unusedVariables false
theorem row_trod {K : Nat} {α : Type} {e st : TypeId} (z : α) {Q : α → Array Value → Prop} (hu : (Tryz.prog).underlying st = some (.slice e)) (hC : Program.cellsOf Tryz.prog e = K) (hK : 0 < K)
    (hQ : ∀ (fuel : Nat) (cs : List Value) (x : DataW H × List MemPlace), DataW.trod enc Tryz.prog w base spare held fuel e cs = some x → ∃ t, Q t cs.toArray)
    {fuel : Nat} {cs : List Value} {x : DataW H × List MemPlace} (h : DataW.trod enc Tryz.prog w base spare held fuel st cs = some x) :
    ∃ A cap, ∃ l : List α, ∃ f : Nat → Array Value, cs = [.slice A l.length cap] ∧ l.length ≤ cap ∧ cap ≤ maxLen ∧ RowsK K w w.heap.size A l.length f ∧ ∀ i (h : i < l.length), Q l[i] (f i) := by
  rcases DataW.trod_slice hu h with ⟨rfl, -⟩ | ⟨a, len, cap, elems, rest, n, -, rfl, -, -, hlc, hcm, hel, hev, -, -⟩
  · exact ⟨none, 0, [], fun _ => #[], rfl, Nat.le_refl _, by simp [maxLen], .inl rfl, fun i hi => absurd hi (by simp)⟩
  · have hh : ∀ i, ∃ p : α × Array Value, i < len → Q p.1 p.2 ∧ p.2.size = K ∧ ∀ j, j < p.2.size → w.cell? (a.add (i * K + j)) = p.2[j]? := by
      intro i
      by_cases hi : i < len
      · have ev := hev i hi
        rw [List.getElem?_eq_getElem (by omega)] at ev
        obtain ⟨cs', hc, ht⟩ := Option.bind_eq_some_iff.1 ev
        obtain ⟨t, htc⟩ := hQ n cs' _ ht
        obtain ⟨-, hl, hat⟩ := World.cells?_some hc
        rw [hC] at hat hl
        refine ⟨(t, cs'.toArray), fun _ => ⟨htc, by simpa using hl, fun j hj => ?_⟩⟩
        have := hat j (by simpa [hl] using hj)
        rw [← Go.Deep.add_add, this]
        simp
      · exact ⟨(z, #[]), fun h => absurd h hi⟩
    obtain ⟨S, hS⟩ := Classical.axiomOfChoice hh
    have hlen : ((List.range len).map fun i => (S i).1).length = len := by simp
    refine ⟨some a, cap, (List.range len).map fun i => (S i).1, fun i => (S i).2, by rw [hlen], by omega, hcm, ?_, fun i hi => ?_⟩
    · rw [hlen]
      by_cases h0 : len = 0
      · exact .inl h0
      · have hz := (hS 0 (by omega)).2.1
        have e0 := (hS 0 (by omega)).2.2 0 (by omega)
        rw [Array.getElem?_eq_getElem (by omega)] at e0
        have := cell_lt e0
        obtain ⟨b, o, sp⟩ := a
        simp [Addr.add] at this
        obtain ⟨hb, rfl⟩ := this
        refine .inr ⟨b, o, rfl, hb, fun i hi j hj => ?_⟩
        have := (hS i hi).2.2 j hj
        rw [add_at] at this
        rw [← this, Nat.add_assoc]
    · rw [hlen] at hi
      simp only [List.getElem_map, List.getElem_range]
      exact (hS i hi).1
set_option maxRecDepth 100000 in
theorem nm_trod (fuel : Nat) (cs : List Value) (x : DataW H × List MemPlace) (h : DataW.trod enc Tryz.prog w base spare held fuel 57 cs = some x) : ∃ t, NmC w w.heap.size t cs.toArray := by
  obtain ⟨xs, n, rfl, -, hcl, hxl, hf⟩ := DataW.trod_struct Tryz.underlying57 h
  have hC : Program.cellsOf Tryz.prog 57 = 8 := by kernel_rfl
  have hC1 : Program.cellsOf Tryz.prog 9 = 1 := by kernel_rfl
  have hC2 : Program.cellsOf Tryz.prog 53 = 7 := by kernel_rfl
  rw [hC] at hcl
  match cs, hcl with
  | [c0, c1, c2, c3, c4, c5, c6, c7], _ =>
  match xs, hxl with
  | [y0, y1], _ =>
  have e0 : DataW.trod enc Tryz.prog w base spare held n 9 (([c0, c1, c2, c3, c4, c5, c6, c7].drop 0).take (Program.cellsOf Tryz.prog 9)) = some y0 := hf 0 _ rfl
  rw [hC1] at e0
  change DataW.trod enc Tryz.prog w base spare held n 9 [c0] = some y0 at e0
  have e1 : DataW.trod enc Tryz.prog w base spare held n 53 (([c0, c1, c2, c3, c4, c5, c6, c7].drop 1).take (Program.cellsOf Tryz.prog 53)) = some y1 := hf 1 _ rfl
  rw [hC2] at e1
  change DataW.trod enc Tryz.prog w base spare held n 53 [c1, c2, c3, c4, c5, c6, c7] = some y1 at e1
  obtain ⟨s, h0, -, w0⟩ := DataW.trod_string Tryz.underlying9 e0
  obtain ⟨t, ht⟩ := type_trod _ _ _ e1
  obtain ⟨na, nc, sa, sc, f, hc, -⟩ := ht.inv
  refine ⟨⟨s, t⟩, w0, na, nc, sa, sc, ?_, by rw [← hc]; exact ht⟩
  simp only [List.cons.injEq, and_true] at h0
  subst h0
  simp [tyCells] at hc
  simp [nmCells, hc]
set_option maxRecDepth 100000 in
theorem nms_trod {fuel : Nat} {cs : List Value} {x : DataW H × List MemPlace} (h : DataW.trod enc Tryz.prog w base spare held fuel 31 cs = some x) :
    ∃ A cap, ∃ l : List Nm, cs = [.slice A l.length cap] ∧ l.length ≤ cap ∧ cap ≤ maxLen ∧ NmsAt w w.heap.size A l := by
  obtain ⟨A, cap, l, f, h1, h2, h3, h4, h5⟩ := row_trod (K := 8) (Q := NmC w w.heap.size) ⟨{ data := #[] }, .mk 0 { data := #[] } 0 { data := #[] } { data := #[] } [] []⟩ Tryz.underlying31 (by kernel_rfl) (by decide) nm_trod h
  exact ⟨A, cap, l, h1, h2, h3, f, h4, h5⟩
set_option maxRecDepth 100000 in
theorem if_trod (fuel : Nat) (cs : List Value) (x : DataW H × List MemPlace) (h : DataW.trod enc Tryz.prog w base spare held fuel 33 cs = some x) : ∃ t, IfC w w.heap.size t cs.toArray := by
  obtain ⟨xs, n, rfl, -, hcl, hxl, hf⟩ := DataW.trod_struct Tryz.underlying33 h
  have hC : Program.cellsOf Tryz.prog 33 = 5 := by kernel_rfl
  have hC1 : Program.cellsOf Tryz.prog 9 = 1 := by kernel_rfl
  have hC2 : Program.cellsOf Tryz.prog 3 = 1 := by kernel_rfl
  have hC3 : Program.cellsOf Tryz.prog 31 = 1 := by kernel_rfl
  rw [hC] at hcl
  match cs, hcl with
  | [c0, c1, c2, c3, c4], _ =>
  match xs, hxl with
  | [y0, y1, y2, y3, y4], _ =>
  have e0 : DataW.trod enc Tryz.prog w base spare held n 9 (([c0, c1, c2, c3, c4].drop 0).take (Program.cellsOf Tryz.prog 9)) = some y0 := hf 0 _ rfl
  rw [hC1] at e0
  change DataW.trod enc Tryz.prog w base spare held n 9 [c0] = some y0 at e0
  have e1 : DataW.trod enc Tryz.prog w base spare held n 3 (([c0, c1, c2, c3, c4].drop 1).take (Program.cellsOf Tryz.prog 3)) = some y1 := hf 1 _ rfl
  rw [hC2] at e1
  change DataW.trod enc Tryz.prog w base spare held n 3 [c1] = some y1 at e1
  have e2 : DataW.trod enc Tryz.prog w base spare held n 9 (([c0, c1, c2, c3, c4].drop 2).take (Program.cellsOf Tryz.prog 9)) = some y2 := hf 2 _ rfl
  rw [hC1] at e2
  change DataW.trod enc Tryz.prog w base spare held n 9 [c2] = some y2 at e2
  have e3 : DataW.trod enc Tryz.prog w base spare held n 31 (([c0, c1, c2, c3, c4].drop 3).take (Program.cellsOf Tryz.prog 31)) = some y3 := hf 3 _ rfl
  rw [hC3] at e3
  change DataW.trod enc Tryz.prog w base spare held n 31 [c3] = some y3 at e3
  have e4 : DataW.trod enc Tryz.prog w base spare held n 31 (([c0, c1, c2, c3, c4].drop 4).take (Program.cellsOf Tryz.prog 31)) = some y4 := hf 4 _ rfl
  rw [hC3] at e4
  change DataW.trod enc Tryz.prog w base spare held n 31 [c4] = some y4 at e4
  clear hf h
  obtain ⟨pk, h0, -, w0⟩ := DataW.trod_string Tryz.underlying9 e0
  obtain ⟨mj, h1, -, w1⟩ := DataW.trod_int Tryz.underlying3 e1
  obtain ⟨mo, h2, -, w2⟩ := DataW.trod_string Tryz.underlying9 e2
  obtain ⟨ta, tc, tl, h3, htc, htm, hT⟩ := nms_trod e3
  obtain ⟨va, vc, vl, h4, hvc, hvm, hV⟩ := nms_trod e4
  simp only [List.cons.injEq, and_true] at h0 h1 h2 h3 h4
  subst h0 h1 h2 h3 h4
  exact ⟨⟨pk, mj, mo, tl, vl⟩, ⟨w0, w2, bounds_i64 w1, Nat.le_trans htc htm, Nat.le_trans hvc hvm⟩, ta, tc, va, vc, rfl, hT, hV, htc, hvc⟩
set_option maxRecDepth 100000 in
theorem ifs_trod {fuel : Nat} {cs : List Value} {x : DataW H × List MemPlace} (h : DataW.trod enc Tryz.prog w base spare held fuel 26 cs = some x) :
    ∃ A cap, ∃ l : List If, cs = [.slice A l.length cap] ∧ l.length ≤ cap ∧ cap ≤ maxLen ∧ IfsAt w w.heap.size A l := by
  obtain ⟨A, cap, l, f, h1, h2, h3, h4, h5⟩ := row_trod (K := 5) (Q := IfC w w.heap.size) ⟨{ data := #[] }, 0, { data := #[] }, [], []⟩ Tryz.underlying26 (by kernel_rfl) (by decide) if_trod h
  exact ⟨A, cap, l, h1, h2, h3, f, h4, h5⟩
set_option maxRecDepth 100000 in
theorem open_ifs {r : Reach} {b0 : Nat} {v : Value} {d : DataW H} {p : List MemPlace} (hv : Value.okWide Tryz.prog w r b0 26 v) (h : DataW.Trod enc Tryz.prog w base spare held 26 v d p) :
    ∃ A cap, ∃ l : List If, v = .slice A l.length cap ∧ l.length ≤ cap ∧ cap ≤ maxLen ∧ IfsAt w w.heap.size A l := by
  obtain ⟨a0, len, cap0, rfl⟩ := okWide_slice Tryz.underlying26 hv
  obtain ⟨fuel, hf⟩ := h
  obtain ⟨A, cap, l, h1, h2, h3, h4⟩ := ifs_trod hf
  simp only [Value.cells, List.cons.injEq, and_true] at h1
  exact ⟨A, cap, l, h1, h2, h3, h4⟩
end
end Go.Proofs.YtjeldfipipkfiaaGreat
namespace Go.Proofs.YtjeldfipipkfiaaGreat
open Go.ChangeShapes Go.WideShapes Go.ChangeAt Go.RowKit Go.Deep
section
variable {H : Type} {enc : TypeId × Value → H} {w : World} {base : Nat} {spare : Nat → Bool} {held : Bool}
set_option linter.unusedSimpArgs false
set_option linter.unusedVariables false
set_option maxRecDepth 100000 in
theorem imp_trod (fuel : Nat) (cs : List Value) (x : DataW H × List MemPlace) (h : DataW.trod enc Tryz.prog w base spare held fuel 72 cs = some x) : ∃ t : Imp, ImpFits t ∧ cs.toArray = impCells t := by
  obtain ⟨xs, n, rfl, -, hcl, hxl, hf⟩ := DataW.trod_struct Tryz.underlying72 h
  have hC : Program.cellsOf Tryz.prog 72 = 4 := by kernel_rfl
  have hC1 : Program.cellsOf Tryz.prog 9 = 1 := by kernel_rfl
  have hC2 : Program.cellsOf Tryz.prog 3 = 1 := by kernel_rfl
  rw [hC] at hcl
  match cs, hcl with
  | [c0, c1, c2, c3], _ =>
  match xs, hxl with
  | [y0, y1, y2, y3], _ =>
  have e0 : DataW.trod enc Tryz.prog w base spare held n 9 (([c0, c1, c2, c3].drop 0).take (Program.cellsOf Tryz.prog 9)) = some y0 := hf 0 _ rfl
  have e1 : DataW.trod enc Tryz.prog w base spare held n 3 (([c0, c1, c2, c3].drop 1).take (Program.cellsOf Tryz.prog 3)) = some y1 := hf 1 _ rfl
  have e2 : DataW.trod enc Tryz.prog w base spare held n 9 (([c0, c1, c2, c3].drop 2).take (Program.cellsOf Tryz.prog 9)) = some y2 := hf 2 _ rfl
  have e3 : DataW.trod enc Tryz.prog w base spare held n 9 (([c0, c1, c2, c3].drop 3).take (Program.cellsOf Tryz.prog 9)) = some y3 := hf 3 _ rfl
  rw [hC1] at e0 e2 e3
  rw [hC2] at e1
  change DataW.trod enc Tryz.prog w base spare held n 9 [c0] = some y0 at e0
  change DataW.trod enc Tryz.prog w base spare held n 3 [c1] = some y1 at e1
  change DataW.trod enc Tryz.prog w base spare held n 9 [c2] = some y2 at e2
  change DataW.trod enc Tryz.prog w base spare held n 9 [c3] = some y3 at e3
  obtain ⟨pk, h0, -, w0⟩ := DataW.trod_string Tryz.underlying9 e0
  obtain ⟨mj, h1, -, w1⟩ := DataW.trod_int Tryz.underlying3 e1
  obtain ⟨mo, h2, -, w2⟩ := DataW.trod_string Tryz.underlying9 e2
  obtain ⟨an, h3, -, w3⟩ := DataW.trod_string Tryz.underlying9 e3
  simp only [List.cons.injEq, and_true] at h0 h1 h2 h3
  subst h0 h1 h2 h3
  exact ⟨⟨pk, mj, mo, an⟩, ⟨w0, w2, w3, bounds_i64 w1⟩, rfl⟩
set_option maxRecDepth 100000 in
theorem dcl_trod (fuel : Nat) (cs : List Value) (x : DataW H × List MemPlace) (h : DataW.trod enc Tryz.prog w base spare held fuel 55 cs = some x) : ∃ t, DclC w w.heap.size t cs.toArray := by
  obtain ⟨xs, n, rfl, -, hcl, hxl, hf⟩ := DataW.trod_struct Tryz.underlying55 h
  have hC : Program.cellsOf Tryz.prog 55 = 9 := by kernel_rfl
  have hC1 : Program.cellsOf Tryz.prog 9 = 1 := by kernel_rfl
  have hC2 : Program.cellsOf Tryz.prog 3 = 1 := by kernel_rfl
  have hC3 : Program.cellsOf Tryz.prog 53 = 7 := by kernel_rfl
  rw [hC] at hcl
  match cs, hcl with
  | [c0, c1, c2, c3, c4, c5, c6, c7, c8], _ =>
  match xs, hxl with
  | [y0, y1, y2], _ =>
  have e0 : DataW.trod enc Tryz.prog w base spare held n 3 (([c0, c1, c2, c3, c4, c5, c6, c7, c8].drop 0).take (Program.cellsOf Tryz.prog 3)) = some y0 := hf 0 _ rfl
  have e1 : DataW.trod enc Tryz.prog w base spare held n 9 (([c0, c1, c2, c3, c4, c5, c6, c7, c8].drop 1).take (Program.cellsOf Tryz.prog 9)) = some y1 := hf 1 _ rfl
  have e2 : DataW.trod enc Tryz.prog w base spare held n 53 (([c0, c1, c2, c3, c4, c5, c6, c7, c8].drop 2).take (Program.cellsOf Tryz.prog 53)) = some y2 := hf 2 _ rfl
  rw [hC2] at e0
  rw [hC1] at e1
  rw [hC3] at e2
  change DataW.trod enc Tryz.prog w base spare held n 3 [c0] = some y0 at e0
  change DataW.trod enc Tryz.prog w base spare held n 9 [c1] = some y1 at e1
  change DataW.trod enc Tryz.prog w base spare held n 53 [c2, c3, c4, c5, c6, c7, c8] = some y2 at e2
  obtain ⟨k, h0, -, w0⟩ := DataW.trod_int Tryz.underlying3 e0
  obtain ⟨nm, h1, -, w1⟩ := DataW.trod_string Tryz.underlying9 e1
  obtain ⟨t, ht⟩ := type_trod _ _ _ e2
  obtain ⟨na, nc, sa, sc, f, hc, -⟩ := ht.inv
  refine ⟨⟨k, nm, t⟩, ⟨bounds_i64 w0, w1⟩, na, nc, sa, sc, ?_, by rw [← hc]; exact ht⟩
  simp only [List.cons.injEq, and_true] at h0 h1
  subst h0 h1
  simp [tyCells] at hc
  simp [dclCells, hc]
set_option maxRecDepth 100000 in
theorem mdl_trod {fuel : Nat} {cs : List Value} {x : DataW H × List MemPlace} (h : DataW.trod enc Tryz.prog w base spare held fuel 25 cs = some x) :
    ∃ m ia ic da dc, cs = (mdlCells m ia ic da dc).toList ∧ MdlC w w.heap.size m ia ic da dc := by
  obtain ⟨xs, n, rfl, -, hcl, hxl, hf⟩ := DataW.trod_struct Tryz.underlying25 h
  have hC : Program.cellsOf Tryz.prog 25 = 3 := by kernel_rfl
  have hC1 : Program.cellsOf Tryz.prog 9 = 1 := by kernel_rfl
  have hC2 : Program.cellsOf Tryz.prog 22 = 1 := by kernel_rfl
  have hC3 : Program.cellsOf Tryz.prog 23 = 1 := by kernel_rfl
  rw [hC] at hcl
  match cs, hcl with
  | [c0, c1, c2], _ =>
  match xs, hxl with
  | [y0, y1, y2], _ =>
  have e0 : DataW.trod enc Tryz.prog w base spare held n 9 (([c0, c1, c2].drop 0).take (Program.cellsOf Tryz.prog 9)) = some y0 := hf 0 _ rfl
  have e1 : DataW.trod enc Tryz.prog w base spare held n 22 (([c0, c1, c2].drop 1).take (Program.cellsOf Tryz.prog 22)) = some y1 := hf 1 _ rfl
  have e2 : DataW.trod enc Tryz.prog w base spare held n 23 (([c0, c1, c2].drop 2).take (Program.cellsOf Tryz.prog 23)) = some y2 := hf 2 _ rfl
  rw [hC1] at e0
  rw [hC2] at e1
  rw [hC3] at e2
  change DataW.trod enc Tryz.prog w base spare held n 9 [c0] = some y0 at e0
  change DataW.trod enc Tryz.prog w base spare held n 22 [c1] = some y1 at e1
  change DataW.trod enc Tryz.prog w base spare held n 23 [c2] = some y2 at e2
  obtain ⟨nm, h0, -, w0⟩ := DataW.trod_string Tryz.underlying9 e0
  obtain ⟨ia, ic, il, fi, h1, hi1, hi2, hi3, hi4⟩ := row_trod (K := 4) (Q := fun t cs => ImpFits t ∧ cs = impCells t) ⟨{ data := #[] }, 0, { data := #[] }, { data := #[] }⟩ Tryz.underlying22 (by kernel_rfl) (by decide) imp_trod e1
  obtain ⟨da, dc, dl, fd, h2, hd1, hd2, hd3, hd4⟩ := row_trod (K := 9) (Q := DclC w w.heap.size) ⟨0, { data := #[] }, .mk 0 { data := #[] } 0 { data := #[] } { data := #[] } [] []⟩ Tryz.underlying23 (by kernel_rfl) (by decide) dcl_trod e2
  simp only [List.cons.injEq, and_true] at h0 h1 h2
  subst h0 h1 h2
  exact ⟨⟨nm, il, dl⟩, ia, ic, da, dc, rfl, ⟨w0, ⟨fi, hi3, hi4⟩, ⟨fd, hd3, hd4⟩, Nat.le_trans hi1 hi2, Nat.le_trans hd1 hd2, hi1, hd1⟩⟩
set_option maxRecDepth 100000 in
theorem open_mdl {r : Reach} {b0 : Nat} {v : Value} {d : DataW H} {p : List MemPlace} (hv : Value.okWide Tryz.prog w r b0 25 v) (h : DataW.Trod enc Tryz.prog w base spare held 25 v d p) :
    ∃ m ia ic da dc, v = .agg (mdlCells m ia ic da dc) ∧ MdlC w w.heap.size m ia ic da dc := by
  obtain ⟨cs, rfl, hsz⟩ := okWide_struct Tryz.underlying25 hv
  obtain ⟨fuel, hf⟩ := h
  obtain ⟨m, ia, ic, da, dc, hc, hm⟩ := mdl_trod hf
  refine ⟨m, ia, ic, da, dc, ?_, hm⟩
  have e : (Value.agg cs).cells.toList = cs.toList := by simp [Value.cells]
  rw [e] at hc
  have : cs = mdlCells m ia ic da dc := by
    cases cs
    simp at hc ⊢
    rw [hc]
  rw [this]
end
end Go.Proofs.YtjeldfipipkfiaaGreat
