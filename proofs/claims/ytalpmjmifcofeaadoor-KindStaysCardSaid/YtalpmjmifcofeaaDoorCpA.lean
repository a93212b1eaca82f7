/- Helpers, cut by program (extract.py) out of texts of another seat: Clone, Copied, Out2, BothA, BothR, PartA, SubSub, SubP, Cat. -/
import Derived.Test.YtalpmjmifcofeaaDoorTextC
import Derived.Test.YtalpmjmifcofeaaDoorRegL
import Derived.Test.YtalpmjmifcofeaaDoorRefMay
import Derived.Deep.RegionHeld3
namespace Go.Proofs.YtalpmjmifcofeaaDoor
open Go.RowKit
set_option linter.unusedSimpArgs false
set_option linter.unusedVariables false
def Fresh (w w' : World) : Nat → Prop := fun b => w.heap.size ≤ b ∧ b < w'.heap.size
/-- seven cells of a row are written -/
def arr7 (c : Array Value) (o : Nat) (v0 v1 v2 v3 v4 v5 v6 : Value) : Array Value := ((((((c.setIfInBounds o v0).setIfInBounds (o + 1) v1).setIfInBounds (o + 2) v2).setIfInBounds (o + 3) v3).setIfInBounds (o + 4) v4).setIfInBounds (o + 5) v5).setIfInBounds (o + 6) v6
def put7 (w : World) (g o : Nat) (v0 v1 v2 v3 v4 v5 v6 : Value) : World := ((((((w.setCell ⟨g, o, none⟩ v0).setCell ⟨g, o + 1, none⟩ v1).setCell ⟨g, o + 2, none⟩ v2).setCell ⟨g, o + 3, none⟩ v3).setCell ⟨g, o + 4, none⟩ v4).setCell ⟨g, o + 5, none⟩ v5).setCell ⟨g, o + 6, none⟩ v6
theorem arr7_out {c : Array Value} {o i : Nat} {v0 v1 v2 v3 v4 v5 v6 : Value} (h : i < o ∨ o + 7 ≤ i) : (arr7 c o v0 v1 v2 v3 v4 v5 v6)[i]? = c[i]? := by
  unfold arr7
  simp only [Array.getElem?_setIfInBounds]
  repeat rw [if_neg (by omega)]
theorem arr7_in {c : Array Value} {o j : Nat} {v0 v1 v2 v3 v4 v5 v6 : Value} (h : o + 7 ≤ c.size) (hj : j < 7) : (arr7 c o v0 v1 v2 v3 v4 v5 v6)[o + j]? = (#[v0, v1, v2, v3, v4, v5, v6] : Array Value)[j]? := by
  unfold arr7
  simp only [Array.getElem?_setIfInBounds, Array.size_setIfInBounds]
  match j, hj with
  | 0, _ => simp; omega
  | 1, _ => simp; omega
  | 2, _ => simp; omega
  | 3, _ => simp; omega
  | 4, _ => simp; omega
  | 5, _ => simp; omega
  | 6, _ => simp; omega
theorem put7_blk {w : World} {g o : Nat} {C : Array Value} {T : TypeId} (v0 v1 v2 v3 v4 v5 v6 : Value) (h : Blk w g C T) : Blk (put7 w g o v0 v1 v2 v3 v4 v5 v6) g (arr7 C o v0 v1 v2 v3 v4 v5 v6) T :=
  ((((((h.set _ _).set _ _).set _ _).set _ _).set _ _).set _ _).set _ _
theorem put7_cell {w : World} {g o : Nat} (v0 v1 v2 v3 v4 v5 v6 : Value) {p : Addr} (hp : p.block ≠ g) : (put7 w g o v0 v1 v2 v3 v4 v5 v6).cell? p = w.cell? p := by
  unfold put7
  repeat rw [World.cell?_setCell_other _ _ _ _ (fun e => hp (by rw [← e]))]
theorem put7_size (w : World) (g o : Nat) (v0 v1 v2 v3 v4 v5 v6 : Value) : (put7 w g o v0 v1 v2 v3 v4 v5 v6).heap.size = w.heap.size := by
  simp [put7, World.setCell]
theorem put7_below {B : Nat} {a w : World} {g o : Nat} (v0 v1 v2 v3 v4 v5 v6 : Value) (h : Below B a w) (hg : B ≤ g) : Below B a (put7 w g o v0 v1 v2 v3 v4 v5 v6) :=
  ((((((h.setCell (p := ⟨g, _, none⟩) hg _).setCell (p := ⟨g, _, none⟩) hg _).setCell (p := ⟨g, _, none⟩) hg _).setCell (p := ⟨g, _, none⟩) hg _).setCell (p := ⟨g, _, none⟩) hg _).setCell (p := ⟨g, _, none⟩) hg _).setCell (p := ⟨g, _, none⟩) hg _
/-- the blocks in which an element's memory lies: the arguments', or the call's own but for the two rows -/
def InM (w : World) (B base : Nat) (nv sv : Value) : Nat → Prop := fun b => b < B ∨ (base ≤ b ∧ b < w.heap.size ∧ nv.ownBlock ≠ some b ∧ sv.ownBlock ≠ some b)
theorem arr7_lit (a0 a1 a2 a3 a4 a5 a6 v0 v1 v2 v3 v4 v5 v6 : Value) : arr7 #[a0, a1, a2, a3, a4, a5, a6] 0 v0 v1 v2 v3 v4 v5 v6 = #[v0, v1, v2, v3, v4, v5, v6] := by
  apply Array.ext_getElem?
  intro i
  by_cases h : i < 7
  · have e := arr7_in (c := #[a0, a1, a2, a3, a4, a5, a6]) (o := 0) (j := i) (v0 := v0) (v1 := v1) (v2 := v2) (v3 := v3) (v4 := v4) (v5 := v5) (v6 := v6) (by simp) h
    rw [Nat.zero_add] at e
    exact e
  · rw [arr7_out (.inr (by omega)), Array.getElem?_eq_none (by simp; omega), Array.getElem?_eq_none (by simp; omega)]
theorem grown_box {X w1 : World} {bx : Nat} {row : Option Nat} {C : Array Value} {T : TypeId} (hg : X.grownBy w1 row) (hbx : Blk X bx C T) (h1 : row ≠ some bx) : Blk w1 bx C T := (hg.block bx hbx.lt (fun e => h1 e.symm)).trans hbx
theorem put7_zero (w : World) (g : Nat) (v0 v1 v2 v3 v4 v5 v6 : Value) : put7 w g 0 v0 v1 v2 v3 v4 v5 v6 = (((((((w.setCell ⟨g, 0, none⟩ v0).setCell ⟨g, 1, none⟩ v1).setCell ⟨g, 2, none⟩ v2).setCell ⟨g, 3, none⟩ v3).setCell ⟨g, 4, none⟩ v4).setCell ⟨g, 5, none⟩ v5).setCell ⟨g, 6, none⟩ v6) := by
  simp only [put7, Nat.zero_add]
/-- a result box, written whole -/
theorem put7_full {w : World} {g : Nat} {T : TypeId} {a0 a1 a2 a3 a4 a5 a6 : Value} (v0 v1 v2 v3 v4 v5 v6 : Value) (h : Blk w g #[a0, a1, a2, a3, a4, a5, a6] T) :
    Blk (((((((w.setCell ⟨g, 0, none⟩ v0).setCell ⟨g, 1, none⟩ v1).setCell ⟨g, 2, none⟩ v2).setCell ⟨g, 3, none⟩ v3).setCell ⟨g, 4, none⟩ v4).setCell ⟨g, 5, none⟩ v5).setCell ⟨g, 6, none⟩ v6) g #[v0, v1, v2, v3, v4, v5, v6] T := by
  have := put7_blk (o := 0) v0 v1 v2 v3 v4 v5 v6 h
  rw [arr7_lit, put7_zero] at this
  exact this
theorem laid0 (w : World) (C : Array Value) (T : TypeId) : Below w.heap.size w (w.alloc (.cells C T)) ∧ (w.alloc (.cells C T)).heap[w.heap.size]? = some (.cells C T (0, 0)) ∧ (w.alloc (.cells C T)).heap.size = w.heap.size + 1 :=
  ⟨(Below.refl _ _).alloc (Nat.le_refl _) _, heap_alloc_new w _, by simp⟩
structure Row1 (w : World) (B base : Nat) (sv : Value) (L : List Ty) (F : List (Array Value)) : Prop where
  len : F.length = L.length
  row : w.ownsRow base 25 7 sv L.length (F.flatMap (·.toList))
  seven : ∀ c ∈ F, c.size = 7
  each : ∀ i (h : i < L.length) (h' : i < F.length), TyM w (InM w B base (.slice none 0 0) sv) L[i] F[i]
theorem Row1.under {w w' : World} {B base : Nat} {sv : Value} {L : List Ty} {F : List (Array Value)} (h : Row1 w B base sv L F) (hb : Below w.heap.size w w') (hB : B ≤ w.heap.size) : Row1 w' B base sv L F :=
  ⟨h.len, owns_under h.row hb, h.seven, fun i hi hi' => (h.each i hi hi').move (fun b hM => by
    rcases hM with hM | hM
    · exact .inl hM
    · exact .inr ⟨hM.1, Nat.lt_of_lt_of_le hM.2.1 hb.size, hM.2.2⟩) (fun p hp => by
    rcases hp with hp | hp
    · exact hb.cell (Nat.lt_of_lt_of_le hp hB)
    · exact hb.cell hp.2.1)⟩
theorem Row1.nil (w : World) (B base : Nat) : Row1 w B base (.slice none 0 0) [] [] :=
  ⟨rfl, World.ownsRow_nil _ _ _ _, by simp, fun i hi => by simp at hi⟩
theorem Row1.push {w x3 x4 x5 : World} {B base gS cS : Nat} {sv : Value} {L : List Ty} {F : List (Array Value)} {t : Ty} {c : Array Value} (h : Row1 w B base sv L F) (hB : B ≤ base) (hbase : base ≤ w.heap.size)
    (hx3 : Below w.heap.size w x3) (hg2 : x3.grownBy x4 sv.ownBlock) (hx5 : ∀ b, (b < B ∨ base ≤ b) → x5.heap[b]? = x4.heap[b]?) (hz5 : x5.heap.size = x4.heap.size)
    (hS : x4.ownsRow base 25 7 (.slice (some ⟨gS, 0, none⟩) (L.length + 1) cS) (L.length + 1) (F.flatMap (·.toList) ++ c.toList)) (hSat : sv.ownBlock = some gS ∨ w.heap.size ≤ gS)
    (hc : c.size = 7) (ht : TyM w (InM w B base (.slice none 0 0) sv) t c) :
    Row1 x5 B base (.slice (some ⟨gS, 0, none⟩) (L.length + 1) cS) (L ++ [t]) (F ++ [c]) := by
  have s3 := hx3.size
  have s4 := hg2.size
  have hgS := owns_lt hS (show (Value.slice (some ⟨gS, 0, none⟩) (L.length + 1) cS).ownBlock = some gS from rfl)
  have hfar : ∀ b, b < w.heap.size → sv.ownBlock ≠ some b → (b < B ∨ base ≤ b) → x5.heap[b]? = w.heap[b]? := by
    intro b hb h2 h3
    rw [hx5 b h3, hg2.block b (by omega) (fun e => h2 e.symm), hx3.block b (by omega)]
  have hcell : ∀ p : Addr, p.block < w.heap.size → sv.ownBlock ≠ some p.block → (p.block < B ∨ base ≤ p.block) → x5.cell? p = w.cell? p :=
    fun p h0 h2 h3 => World.cell?_of_block (w := w) (hfar p.block h0 h2 h3)
  have hmove : ∀ {t c}, TyM w (InM w B base (.slice none 0 0) sv) t c → TyM x5 (InM x5 B base (.slice none 0 0) (.slice (some ⟨gS, 0, none⟩) (L.length + 1) cS)) t c := by
    intro t c ht
    refine ht.move (fun b hM => ?_) (fun p hM => ?_)
    · rcases hM with hM | ⟨m1, m2, m3, m4⟩
      · exact .inl hM
      · refine .inr ⟨m1, by omega, m3, ?_⟩
        rintro e
        simp [Value.ownBlock] at e
        subst e
        rcases hSat with hSat | hSat
        · exact m4 hSat
        · omega
    · rcases hM with hM | ⟨m1, m2, m3, m4⟩
      · exact hcell p (by omega) (fun e => by have := (owns_lt h.row e).1; omega) (.inl hM)
      · exact hcell p m2 m4 (.inr m1)
  refine ⟨by simp [h.len], ?_, ?_, ?_⟩
  · have e : (L ++ [t]).length = L.length + 1 := by simp
    rw [e, List.flatMap_append]
    have e2 : ([c] : List (Array Value)).flatMap (·.toList) = c.toList := by simp
    rw [e2]
    refine owns_keep hS fun g hg => ?_
    simp [Value.ownBlock] at hg
    subst hg
    exact hx5 _ (.inr hgS.1)
  · intro x hx
    rcases List.mem_append.1 hx with hx | hx
    · exact h.seven x hx
    · simp at hx; subst hx; exact hc
  · intro i hi hi'
    by_cases hil : i < L.length
    · have hif : i < F.length := by rw [h.len]; exact hil
      rw [List.getElem_append_left hil, List.getElem_append_left hif]
      exact hmove (h.each i hil hif)
    · have e : i = L.length := by simp at hi; omega
      subst e
      have e1 : (L ++ [t])[L.length] = t := by simp
      have e2 : (F ++ [c])[L.length] = c := by
        rw [List.getElem_append_right (by rw [h.len]; omega)]
        simp [h.len]
      rw [e1, e2]
      exact hmove ht
theorem boxes2 (w : World) (c0 c1 : Array Value) (T : TypeId) : Blk ((w.alloc (.cells c0 T)).alloc (.cells c1 T)) w.heap.size c0 T ∧ Blk ((w.alloc (.cells c0 T)).alloc (.cells c1 T)) (w.heap.size + 1) c1 T ∧
    ((w.alloc (.cells c0 T)).alloc (.cells c1 T)).heap.size = w.heap.size + 2 ∧ Below w.heap.size w ((w.alloc (.cells c0 T)).alloc (.cells c1 T)) := by
  have e1 : (w.alloc (.cells c0 T)).heap.size = w.heap.size + 1 := by simp
  have b1 := Blk.new (w.alloc (.cells c0 T)) c1 T
  rw [e1] at b1
  exact ⟨(Blk.new w c0 T).alloc _, b1, by simp, ((Below.refl _ _).alloc (Nat.le_refl _) _).alloc (by simp) _⟩
theorem strs_cells {w : World} {B : Nat} {a : Addr} {l : List ByteArray} (h : StrsAt w B (some a) l) : ∀ j u, (l.map Value.string)[j]? = some u → w.cell? (a.add j) = some u := by
  intro j u hu
  rcases h with rfl | ⟨b, o, hA, -, hc⟩
  · simp at hu
  · cases hA
    have hj : j < l.length := by have := (List.getElem?_eq_some_iff.1 hu).1; simpa using this
    rw [addN, hc j hj, ← hu]
    simp [hj]
end Go.Proofs.YtalpmjmifcofeaaDoor
