/- The row of types that sub.parts gathers, and what its loop holds. -/
import Derived.Test.YtalpmjmifcofeaaBothR
namespace Go.Proofs.Ytalpmjmifcofeaa
open Go.RowKit
set_option linter.unusedSimpArgs false
set_option linter.unusedVariables false
def allSome {α : Type} : List (Option α) → Option (List α)
  | [] => some []
  | none :: _ => none
  | some x :: l => (allSome l).map (x :: ·)
theorem allSome_snoc {α : Type} : ∀ (l : List (Option α)) (x : α), allSome (l ++ [some x]) = (allSome l).map (· ++ [x])
  | [], x => rfl
  | none :: _, x => rfl
  | some y :: l, x => by
    simp only [List.cons_append, allSome, allSome_snoc l x]
    cases allSome l <;> simp
theorem allSome_none {α : Type} : ∀ (l : List (Option α)), none ∈ l → allSome l = none
  | [], h => by simp at h
  | none :: _, _ => rfl
  | some y :: l, h => by
    have : none ∈ l := by simpa using h
    simp [allSome, allSome_none l this]
theorem allSome_len {α : Type} : ∀ (l : List (Option α)) (r : List α), allSome l = some r → r.length = l.length
  | [], r, h => by simp [allSome] at h; subst h; rfl
  | none :: _, r, h => by simp [allSome] at h
  | some y :: l, r, h => by
    simp only [allSome, Option.map_eq_some_iff] at h
    obtain ⟨r', h', rfl⟩ := h
    simp [allSome_len l r' h']
def wayOf (up : Bool) (a : Ty) (i : Nat) : Bool := if a.kind = 7 ∧ i < a.subs.length - 1 then !up else up
def partG (r : Bool → Ty → Ty → Option Ty) (up : Bool) (a b : Ty) (i : Nat) : Option Ty := r (wayOf up a i) (a.subs.getD i zeroTy) (b.subs.getD i zeroTy)
def partsR (r : Bool → Ty → Ty → Option Ty) (up : Bool) (a b : Ty) : Option Ty :=
  if a.subs.length = b.subs.length then (allSome ((List.range a.subs.length).map (partG r up a b))).map fun L => .mk a.kind { data := #[] } 0 { data := #[] } { data := #[] } [] L else none
structure Row1 (w : World) (B base : Nat) (sv : Value) (L : List Ty) (F : List (Array Value)) : Prop where
  len : F.length = L.length
  row : w.ownsRow base 25 7 sv L.length (F.flatMap (·.toList))
  seven : ∀ c ∈ F, c.size = 7
  each : ∀ i (h : i < L.length) (h' : i < F.length), TyM w (InM w B base (.slice none 0 0) sv) L[i] F[i]
theorem Row1.under {w w' : World} {B base : Nat} {sv : Value} {L : List Ty} {F : List (Array Value)} (h : Row1 w B base sv L F) (hb : Below w.heap.size w w') (hB : B ≤ w.heap.size) : Row1 w' B base sv L F :=
  ⟨h.len, owns_under h.row hb, h.seven, fun i hi hi' => (h.each i hi hi').move (fun b hM => by
    rcases hM with hM | hM
    · exact .inl hM
    · exact .inr ⟨hM.1, Nat.lt_of_lt_of_le hM.2.1 hb.size, hM.2.2⟩) (fun p hp => by
    rcases hp with hp | hp
    · exact hb.cell (Nat.lt_of_lt_of_le hp hB)
    · exact hb.cell hp.2.1)⟩
theorem Row1.nil (w : World) (B base : Nat) : Row1 w B base (.slice none 0 0) [] [] :=
  ⟨rfl, World.ownsRow_nil _ _ _ _, by simp, fun i hi => by simp at hi⟩
theorem Row1.push {w x3 x4 x5 : World} {B base gS cS : Nat} {sv : Value} {L : List Ty} {F : List (Array Value)} {t : Ty} {c : Array Value} (h : Row1 w B base sv L F) (hB : B ≤ base) (hbase : base ≤ w.heap.size)
    (hx3 : Below w.heap.size w x3) (hg2 : x3.grownBy x4 sv.ownBlock) (hx5 : ∀ b, (b < B ∨ base ≤ b) → x5.heap[b]? = x4.heap[b]?) (hz5 : x5.heap.size = x4.heap.size)
    (hS : x4.ownsRow base 25 7 (.slice (some ⟨gS, 0, none⟩) (L.length + 1) cS) (L.length + 1) (F.flatMap (·.toList) ++ c.toList)) (hSat : sv.ownBlock = some gS ∨ w.heap.size ≤ gS)
    (hc : c.size = 7) (ht : TyM w (InM w B base (.slice none 0 0) sv) t c) :
    Row1 x5 B base (.slice (some ⟨gS, 0, none⟩) (L.length + 1) cS) (L ++ [t]) (F ++ [c]) := by
  have s3 := hx3.size
  have s4 := hg2.size
  have hgS := owns_lt hS (show (Value.slice (some ⟨gS, 0, none⟩) (L.length + 1) cS).ownBlock = some gS from rfl)
  have hfar : ∀ b, b < w.heap.size → sv.ownBlock ≠ some b → (b < B ∨ base ≤ b) → x5.heap[b]? = w.heap[b]? := by
    intro b hb h2 h3
    rw [hx5 b h3, hg2.block b (by omega) (fun e => h2 e.symm), hx3.block b (by omega)]
  have hcell : ∀ p : Addr, p.block < w.heap.size → sv.ownBlock ≠ some p.block → (p.block < B ∨ base ≤ p.block) → x5.cell? p = w.cell? p :=
    fun p h0 h2 h3 => World.cell?_of_block (w := w) (hfar p.block h0 h2 h3)
  have hmove : ∀ {t c}, TyM w (InM w B base (.slice none 0 0) sv) t c → TyM x5 (InM x5 B base (.slice none 0 0) (.slice (some ⟨gS, 0, none⟩) (L.length + 1) cS)) t c := by
    intro t c ht
    refine ht.move (fun b hM => ?_) (fun p hM => ?_)
    · rcases hM with hM | ⟨m1, m2, m3, m4⟩
      · exact .inl hM
      · refine .inr ⟨m1, by omega, m3, ?_⟩
        rintro e
        simp [Value.ownBlock] at e
        subst e
        rcases hSat with hSat | hSat
        · exact m4 hSat
        · omega
    · rcases hM with hM | ⟨m1, m2, m3, m4⟩
      · exact hcell p (by omega) (fun e => by have := (owns_lt h.row e).1; omega) (.inl hM)
      · exact hcell p m2 m4 (.inr m1)
  refine ⟨by simp [h.len], ?_, ?_, ?_⟩
  · have e : (L ++ [t]).length = L.length + 1 := by simp
    rw [e, List.flatMap_append]
    have e2 : ([c] : List (Array Value)).flatMap (·.toList) = c.toList := by simp
    rw [e2]
    refine owns_keep hS fun g hg => ?_
    simp [Value.ownBlock] at hg
    subst hg
    exact hx5 _ (.inr hgS.1)
  · intro x hx
    rcases List.mem_append.1 hx with hx | hx
    · exact h.seven x hx
    · simp at hx; subst hx; exact hc
  · intro i hi hi'
    by_cases hil : i < L.length
    · have hif : i < F.length := by rw [h.len]; exact hil
      rw [List.getElem_append_left hil, List.getElem_append_left hif]
      exact hmove (h.each i hil hif)
    · have e : i = L.length := by simp at hi; omega
      subst e
      have e1 : (L ++ [t])[L.length] = t := by simp
      have e2 : (F ++ [c])[L.length] = c := by
        rw [List.getElem_append_right (by rw [h.len]; omega)]
        simp [h.len]
      rw [e1, e2]
      exact hmove ht
theorem Row1.ty {w : World} {B base : Nat} {sv : Value} {L : List Ty} {F : List (Array Value)} (h : Row1 w B base sv L F) (k : Int)
    (hf : Fits (.mk k { data := #[] } 0 { data := #[] } { data := #[] } [] L)) :
    ∃ sa sc, sv = .slice sa L.length sc ∧
      TyM w (fun b => b < B ∨ (base ≤ b ∧ b < w.heap.size)) (.mk k { data := #[] } 0 { data := #[] } { data := #[] } [] L) #[.int .i64 k, .string { data := #[] }, .int .i64 0, .string { data := #[] }, .string { data := #[] }, .slice none 0 0, sv] := by
  have hs : ∃ sa sc, sv = .slice sa L.length sc ∧ L.length ≤ sc ∧ RowsM w (fun b => b < B ∨ (base ≤ b ∧ b < w.heap.size)) sa L.length (fun i => F.getD i #[]) := by
    have h1 := h.row
    obtain ⟨hl, ⟨hv, h0⟩ | ⟨g, cap, cur, hv, hg, hh, hn, -⟩⟩ := h.row
    · exact ⟨none, 0, by rw [hv, h0], by omega, .inl h0⟩
    · subst hv
      refine ⟨_, _, rfl, hn, .inr ⟨g, 0, rfl, .inr ⟨hg, (Array.getElem?_eq_some_iff.1 hh).1⟩, fun i hi j hj => ?_⟩⟩
      have hif : i < F.length := by rw [h.len]; exact hi
      have hF : F.getD i #[] = F[i] := by simp [List.getD, hif]
      dsimp only at hj ⊢
      rw [hF] at hj ⊢
      have h7 := h.seven F[i] (List.getElem_mem hif)
      rw [Nat.zero_add, owns_cell h1 (by omega)]
      exact flat_at F h.seven i hif j (by omega)
  obtain ⟨sa, sc, rfl, hsc, hsm⟩ := hs
  refine ⟨sa, sc, rfl, ?_⟩
  have := TyM.mk (w := w) (M := fun b => b < B ∨ (base ≤ b ∧ b < w.heap.size)) (.mk k { data := #[] } 0 { data := #[] } { data := #[] } [] L) none 0 sa sc (fun i => F.getD i #[]) hf (.inl rfl) (by simpa [Ty.subs] using hsm) (by simp [Ty.names]) (by simpa [Ty.subs] using hsc) (fun i hi => ?_)
  · simpa [tyCells, Ty.kind, Ty.pkg, Ty.major, Ty.mod, Ty.name, Ty.names, Ty.subs] using this
  · have hi' : i < L.length := by simpa [Ty.subs] using hi
    have hif : i < F.length := by rw [h.len]; exact hi'
    have hF : F.getD i #[] = F[i] := by simp [List.getD, hif]
    rw [hF]
    have e := h.each i hi' hif
    exact e.mono fun b hb => by
      rcases hb with hb | hb
      · exact .inl hb
      · exact .inr ⟨hb.1, hb.2.1⟩
structure PartRel (w wr : World) (a b : Ty) (na : Option Addr) (nc : Nat) (sa : Option Addr) (sc : Nat) (na' : Option Addr) (nc' : Nat) (sa' : Option Addr) (sc' : Nat) (B : Nat) (r : Bool → Ty → Ty → Option Ty) (up : Bool) (sv : Value) (L : List Ty) (F : List (Array Value)) (k : Nat) : Prop where
  below : Below w.heap.size w wr
  size : w.heap.size + 4 ≤ wr.heap.size
  boxa : Blk wr w.heap.size (tyCells a na nc sa sc) 25
  boxb : Blk wr (w.heap.size + 1) (tyCells b na' nc' sa' sc') 25
  res : Blk wr (w.heap.size + 1 + 1) #[.int .i64 0, .string { data := #[] }, .int .i64 0, .string { data := #[] }, .string { data := #[] }, .slice none 0 0, .slice none 0 0] 25
  out : Blk wr (w.heap.size + 1 + 1 + 1) #[.int .i64 a.kind, .string { data := #[] }, .int .i64 0, .string { data := #[] }, .string { data := #[] }, .slice none 0 0, sv] 25
  rows : Row1 wr B (w.heap.size + 4) sv L F
  got : allSome ((List.range k).map (partG r up a b)) = some L
theorem PartRel.len {w wr : World} {a b : Ty} {na sa na' sa' : Option Addr} {nc sc nc' sc' B k : Nat} {r : Bool → Ty → Ty → Option Ty} {up : Bool} {sv : Value} {L : List Ty} {F : List (Array Value)} (h : PartRel w wr a b na nc sa sc na' nc' sa' sc' B r up sv L F k) : L.length = k := by
  have := allSome_len _ _ h.got
  simpa using this
theorem PartRel.next {w wr wc x3 x4 : World} {a b : Ty} {na sa na' sa' : Option Addr} {nc sc nc' sc' B k gS cS tb : Nat} {r : Bool → Ty → Ty → Option Ty} {up : Bool} {sv : Value} {L : List Ty} {F : List (Array Value)} {t : Ty} {c : Array Value}
    (h : PartRel w wr a b na nc sa sc na' nc' sa' sc' B r up sv L F k) (hB : B ≤ w.heap.size) (hc : CutRel wr wc B t c tb) (hs : partG r up a b k = some t)
    (hx3 : Below wc.heap.size wc x3) (hg2 : x3.grownBy x4 sv.ownBlock)
    (hS : x4.ownsRow (w.heap.size + 4) 25 7 (.slice (some ⟨gS, 0, none⟩) (L.length + 1) cS) (L.length + 1) (F.flatMap (·.toList) ++ c.toList)) (hSat : sv.ownBlock = some gS ∨ wc.heap.size ≤ gS) :
    PartRel w (x4.setCell ⟨w.heap.size + 1 + 1 + 1, 6, none⟩ (.slice (some ⟨gS, 0, none⟩) (L.length + 1) cS)) a b na nc sa sc na' nc' sa' sc' B r up (.slice (some ⟨gS, 0, none⟩) (L.length + 1) cS) (L ++ [t]) (F ++ [c]) (k + 1) := by
  have s0 := h.size
  have sc := hc.below.size
  have s3 := hx3.size
  have s4 := hg2.size
  have hrw := h.rows.under hc.below (by omega)
  have hown2 : ∀ g, sv.ownBlock = some g → w.heap.size + 4 ≤ g ∧ g < wr.heap.size := fun g hg => owns_lt h.rows.row hg
  have key : ∀ bb, bb < w.heap.size + 4 → x4.heap[bb]? = wr.heap[bb]? := by
    intro bb hb
    rw [hg2.block bb (by omega) (fun e => by have := hown2 bb e.symm; omega), hx3.block bb (by omega), hc.below.block bb (by omega)]
  have hk4 : ∀ {bb C T}, bb < w.heap.size + 4 → Blk wr bb C T → Blk x4 bb C T := fun hb hB => (key _ hb).trans hB
  have hB4 : Below w.heap.size w x4 := by
    refine ⟨?_, ?_, ?_, by omega, fun bb hb => (key bb (by omega)).trans (h.below.block bb hb)⟩
    · rw [hg2.os, hx3.os, hc.below.os, h.below.os]
    · rw [hg2.tape, hx3.tape, hc.below.tape, h.below.tape]
    · rw [hg2.output, hx3.output, hc.below.output, h.below.output]
  have hsz : (x4.setCell ⟨w.heap.size + 1 + 1 + 1, 6, none⟩ (.slice (some ⟨gS, 0, none⟩) (L.length + 1) cS)).heap.size = x4.heap.size := by simp [World.setCell]
  refine ⟨hB4.setCell (p := ⟨w.heap.size + 1 + 1 + 1, 6, none⟩) (by simp; omega) _, by rw [hsz]; omega,
    (hk4 (by omega) h.boxa).far _ _ (by simp; omega), (hk4 (by omega) h.boxb).far _ _ (by simp), (hk4 (by omega) h.res).far _ _ (by simp),
    (hk4 (by omega) h.out).set 6 _, ?_, ?_⟩
  · refine hrw.push (by omega) (by omega) hx3 hg2 (fun bb hb => ?_) hsz hS hSat ?_ ?_
    · rw [Below.heap_setCell _ _ _ _ (by simp; omega)]
    · exact hc.ty.size
    · refine hc.ty.mono fun bb hb => ?_
      rcases hb with hb | hb
      · exact .inl hb
      · exact .inr ⟨by omega, hb.2, fun e => by simp [Value.ownBlock] at e, fun e => by have := hown2 bb e; omega⟩
  · rw [List.range_succ, List.map_append, List.map_singleton, hs, allSome_snoc, h.got]
    rfl
theorem part_fits {a : Ty} (hf : Fits a) {L : List Ty} (hl : L.length ≤ 20) : Fits (.mk a.kind { data := #[] } 0 { data := #[] } { data := #[] } [] L) :=
  ⟨hf.kind, by simp [Ty.major], Nat.zero_le _, Nat.zero_le _, Nat.zero_le _, by simp [Ty.names], by simp [Ty.names], by show L.length ≤ maxLen; unfold maxLen; omega⟩
theorem PartRel.last {w wr : World} {a b : Ty} {na sa na' sa' : Option Addr} {nc sc nc' sc' B k : Nat} {r : Bool → Ty → Ty → Option Ty} {up : Bool} {sv : Value} {L : List Ty} {F : List (Array Value)} (h : PartRel w wr a b na nc sa sc na' nc' sa' sc' B r up sv L F k)
    (hB : B ≤ w.heap.size) (hf : Fits a) (hl : L.length ≤ 20) (v0 v1 v2 v3 v4 v5 v6 : Value) :
    TyM (put7 wr (w.heap.size + 1 + 1) 0 v0 v1 v2 v3 v4 v5 v6) (fun b => b < B ∨ Fresh w (put7 wr (w.heap.size + 1 + 1) 0 v0 v1 v2 v3 v4 v5 v6) b) (.mk a.kind { data := #[] } 0 { data := #[] } { data := #[] } [] L) #[.int .i64 a.kind, .string { data := #[] }, .int .i64 0, .string { data := #[] }, .string { data := #[] }, .slice none 0 0, sv] ∧
    Below w.heap.size w (put7 wr (w.heap.size + 1 + 1) 0 v0 v1 v2 v3 v4 v5 v6) := by
  obtain ⟨sa1, sc1, -, ht⟩ := h.rows.ty a.kind (part_fits hf hl)
  refine ⟨ht.move (fun b hb => ?_) (fun p hp => put7_cell _ _ _ _ _ _ _ ?_), put7_below _ _ _ _ _ _ _ h.below (by omega)⟩
  · rcases hb with hb | hb
    · exact .inl hb
    · exact .inr ⟨by omega, by rw [put7_size]; exact hb.2⟩
  · rcases hp with hp | hp
    · omega
    · have := hp.1; omega
end Go.Proofs.Ytalpmjmifcofeaa
