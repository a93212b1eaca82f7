/- What sub.either gathers, and what its loop holds. -/
import Derived.Test.YtalpmjmifcofeaaPartA
import Derived.Test.YtalpmjmifcofeaaUnion
namespace Go.Proofs.Ytalpmjmifcofeaa
open Go.RowKit
set_option linter.unusedSimpArgs false
set_option linter.unusedVariables false
def eithE (r : Ty → Ty → Option Ty) (a b : Ty) (n : ByteArray) : Option Ty :=
  if memB n b.names then (if memB n a.names then r (ofT a n) (ofT b n) else some (ofT b n)) else some (ofT a n)
def eithG (r : Ty → Ty → Option Ty) (a b : Ty) (n : ByteArray) : Option (ByteArray × Ty) := (eithE r a b n).map fun t => (n, t)
def tyOf (k : Int) (L : List (ByteArray × Ty)) : Ty := .mk k { data := #[] } 0 { data := #[] } { data := #[] } (L.map (·.1)) (L.map (·.2))
def eitherR (r : Ty → Ty → Option Ty) (a b : Ty) : Option Ty := (allSome ((unionN a.names b.names).map (eithG r a b))).map (tyOf a.kind)
theorem eitherR_none (r : Ty → Ty → Option Ty) (a b : Ty) (n : ByteArray) (h : n ∈ unionN a.names b.names) (h2 : eithE r a b n = none) : eitherR r a b = none := by
  unfold eitherR
  rw [allSome_none _ (List.mem_map.2 ⟨n, h, by rw [eithG, h2]; rfl⟩)]
  rfl
/-- the world in which the loop begins: the four boxes, the row of names -/
structure Eith0 (w W : World) (a b : Ty) (na : Option Addr) (nc : Nat) (sa : Option Addr) (sc : Nat) (na' : Option Addr) (nc' : Nat) (sa' : Option Addr) (sc' : Nat) (A : Option Addr) : Prop where
  below : Below w.heap.size w W
  size : w.heap.size + 4 ≤ W.heap.size
  boxa : Blk W w.heap.size (tyCells a na nc sa sc) 25
  boxb : Blk W (w.heap.size + 1) (tyCells b na' nc' sa' sc') 25
  res : Blk W (w.heap.size + 1 + 1) #[.int .i64 0, .string { data := #[] }, .int .i64 0, .string { data := #[] }, .string { data := #[] }, .slice none 0 0, .slice none 0 0] 25
  out : Blk W (w.heap.size + 1 + 1 + 1) #[.int .i64 a.kind, .string { data := #[] }, .int .i64 0, .string { data := #[] }, .string { data := #[] }, .slice none 0 0, .slice none 0 0] 25
  names : ∀ i (h : i < (unionN a.names b.names).length), ∃ g, A = some ⟨g, 0, none⟩ ∧ w.heap.size + 4 ≤ g ∧ W.cell? ⟨g, i, none⟩ = some (.string (unionN a.names b.names)[i])
structure EithRel (w W wr : World) (a b : Ty) (B : Nat) (r : Ty → Ty → Option Ty) (nv sv : Value) (L : List (ByteArray × Ty)) (F : List (Array Value)) (k : Nat) : Prop where
  grown : W.grownBy wr (some (w.heap.size + 1 + 1 + 1))
  out : Blk wr (w.heap.size + 1 + 1 + 1) #[.int .i64 a.kind, .string { data := #[] }, .int .i64 0, .string { data := #[] }, .string { data := #[] }, nv, sv] 25
  rows : Out2 wr B W.heap.size nv sv L F
  got : allSome (((unionN a.names b.names).take k).map (eithG r a b)) = some L
theorem EithRel.below {w W wr : World} {a b : Ty} {na sa na' sa' A : Option Addr} {nc sc nc' sc' B k : Nat} {r : Ty → Ty → Option Ty} {nv sv : Value} {L : List (ByteArray × Ty)} {F : List (Array Value)} (h : EithRel w W wr a b B r nv sv L F k) (h0 : Eith0 w W a b na nc sa sc na' nc' sa' sc' A) :
    Below w.heap.size w wr := h0.below.grown h.grown h0.below.size (fun j hj => by cases hj; omega)
theorem EithRel.blk {w W wr : World} {a b : Ty} {B k x : Nat} {r : Ty → Ty → Option Ty} {nv sv : Value} {L : List (ByteArray × Ty)} {F : List (Array Value)} {C : Array Value} {T : TypeId} (h : EithRel w W wr a b B r nv sv L F k) (hb : Blk W x C T) (hx : x ≠ w.heap.size + 1 + 1 + 1) : Blk wr x C T :=
  (h.grown.block x hb.lt (fun e => hx (by cases e; rfl))).trans hb
theorem EithRel.len {w W wr : World} {a b : Ty} {B k : Nat} {r : Ty → Ty → Option Ty} {nv sv : Value} {L : List (ByteArray × Ty)} {F : List (Array Value)} (h : EithRel w W wr a b B r nv sv L F k) : L.length ≤ (unionN a.names b.names).length := by
  have := allSome_len _ _ h.got
  rw [List.length_map, List.length_take] at this
  omega
theorem EithRel.name {w W wr : World} {a b : Ty} {na sa na' sa' A : Option Addr} {nc sc nc' sc' B k i : Nat} {r : Ty → Ty → Option Ty} {nv sv : Value} {L : List (ByteArray × Ty)} {F : List (Array Value)} (h : EithRel w W wr a b B r nv sv L F k) (h0 : Eith0 w W a b na nc sa sc na' nc' sa' sc' A) (hi : i < (unionN a.names b.names).length) :
    ∃ g, A = some ⟨g, 0, none⟩ ∧ wr.cell? ⟨g, i, none⟩ = some (.string (unionN a.names b.names)[i]) := by
  obtain ⟨g, hA, hg, hc⟩ := h0.names i hi
  refine ⟨g, hA, ?_⟩
  have hlt : g < W.heap.size := World.block_lt_of_cell? W _ hc
  rw [← hc]
  exact World.cell?_of_block (w := W) (h.grown.block g hlt (fun e => by cases e; omega))
theorem CutRel.put {wr W2 w3 : World} {B tb : Nat} {t : Ty} {na sa : Option Addr} {nc sc : Nat} {u0 u1 u2 u3 u4 u5 u6 : Value} (hB : B ≤ wr.heap.size) (h2 : Below wr.heap.size wr W2) (h3 : Below W2.heap.size W2 w3) (h1 : wr.heap.size ≤ tb) (h4 : tb < W2.heap.size)
    (hb : Blk w3 tb #[u0, u1, u2, u3, u4, u5, u6] 25) (ht : TyM w3 (fun b => b < B ∨ Fresh W2 w3 b) t (tyCells t na nc sa sc)) :
    CutRel wr (((((((w3.setCell ⟨tb, 0, none⟩ (.int .i64 t.kind)).setCell ⟨tb, 1, none⟩ (.string t.pkg)).setCell ⟨tb, 2, none⟩ (.int .i64 t.major)).setCell ⟨tb, 3, none⟩ (.string t.mod)).setCell ⟨tb, 4, none⟩ (.string t.name)).setCell ⟨tb, 5, none⟩ (.slice na t.names.length nc)).setCell ⟨tb, 6, none⟩ (.slice sa t.subs.length sc)) B t (tyCells t na nc sa sc) tb := by
  have s2 := h2.size
  have s3 := h3.size
  rw [← put7_zero]
  have hbk := put7_blk (o := 0) (.int .i64 t.kind) (.string t.pkg) (.int .i64 t.major) (.string t.mod) (.string t.name) (.slice na t.names.length nc) (.slice sa t.subs.length sc) hb
  rw [arr7_lit] at hbk
  refine ⟨put7_below _ _ _ _ _ _ _ (acc0 h2 s2 h3) (by omega), hbk, by omega, ht.move (fun b hb => ?_) (fun p hp => ?_)⟩
  · rw [put7_size]
    rcases hb with hb | hb
    · exact .inl hb
    · have := hb.1
      exact .inr ⟨by omega, hb.2⟩
  · refine put7_cell _ _ _ _ _ _ _ ?_
    rcases hp with hp | hp
    · omega
    · have := hp.1; omega
theorem EithRel.next {w W wr wc x1 x2 x3 x4 : World} {a b : Ty} {B k gN cN gS cS tb : Nat} {r : Ty → Ty → Option Ty} {nv sv : Value} {L : List (ByteArray × Ty)} {F : List (Array Value)} {t : Ty} {c : Array Value}
    (h : EithRel w W wr a b B r nv sv L F k) (hB : B ≤ w.heap.size) (h4 : w.heap.size + 4 ≤ W.heap.size) (h1 : k < (unionN a.names b.names).length) (hc : CutRel wr wc B t c tb) {s : ByteArray} (hs0 : (unionN a.names b.names)[k] = s) (hs : eithE r a b s = some t)
    (hx1 : Below wc.heap.size wc x1) (hg1 : x1.grownBy x2 nv.ownBlock) (hx3 : Below x2.heap.size x2 x3) (hg2 : x3.grownBy x4 sv.ownBlock)
    (hN : x2.ownsRow W.heap.size 9 1 (.slice (some ⟨gN, 0, none⟩) (L.length + 1) cN) (L.length + 1) ((L.map fun p => Value.string p.1) ++ [.string s])) (hNat : nv.ownBlock = some gN ∨ wc.heap.size ≤ gN)
    (hS : x4.ownsRow W.heap.size 25 7 (.slice (some ⟨gS, 0, none⟩) (L.length + 1) cS) (L.length + 1) (F.flatMap (·.toList) ++ c.toList)) (hSat : sv.ownBlock = some gS ∨ x2.heap.size ≤ gS) :
    EithRel w W ((x4.setCell ⟨w.heap.size + 1 + 1 + 1, 5, none⟩ (.slice (some ⟨gN, 0, none⟩) (L.length + 1) cN)).setCell ⟨w.heap.size + 1 + 1 + 1, 6, none⟩ (.slice (some ⟨gS, 0, none⟩) (L.length + 1) cS)) a b B r
      (.slice (some ⟨gN, 0, none⟩) (L.length + 1) cN) (.slice (some ⟨gS, 0, none⟩) (L.length + 1) cS) (L ++ [(s, t)]) (F ++ [c]) (k + 1) := by
  have s0 := h.grown.size
  have sc := hc.below.size
  have s1 := hx1.size
  have s2 := hg1.size
  have s3 := hx3.size
  have s4 := hg2.size
  have hrw := h.rows.under hc.below (by omega)
  have hown1 : ∀ g, nv.ownBlock = some g → W.heap.size ≤ g ∧ g < wr.heap.size := fun g hg => owns_lt h.rows.row1 hg
  have hown2 : ∀ g, sv.ownBlock = some g → W.heap.size ≤ g ∧ g < wr.heap.size := fun g hg => owns_lt h.rows.row2 hg
  have key : ∀ bb, bb < W.heap.size → x4.heap[bb]? = wr.heap[bb]? := by
    intro bb hb
    rw [hg2.block bb (by omega) (fun e => by have := hown2 bb e.symm; omega), hx3.block bb (by omega), hg1.block bb (by omega) (fun e => by have := hown1 bb e.symm; omega), hx1.block bb (by omega), hc.below.block bb (by omega)]
  have hsz : ((x4.setCell ⟨w.heap.size + 1 + 1 + 1, 5, none⟩ (.slice (some ⟨gN, 0, none⟩) (L.length + 1) cN)).setCell ⟨w.heap.size + 1 + 1 + 1, 6, none⟩ (.slice (some ⟨gS, 0, none⟩) (L.length + 1) cS)).heap.size = x4.heap.size := by simp [World.setCell]
  refine ⟨⟨?_, ?_, ?_, by rw [hsz]; omega, fun bb hb hne => ?_⟩, ?_, ?_, ?_⟩
  · show x4.os = W.os
    rw [hg2.os, hx3.os, hg1.os, hx1.os, hc.below.os, h.grown.os]
  · show x4.tape = W.tape
    rw [hg2.tape, hx3.tape, hg1.tape, hx1.tape, hc.below.tape, h.grown.tape]
  · show x4.output = W.output
    rw [hg2.output, hx3.output, hg1.output, hx1.output, hc.below.output, h.grown.output]
  · have hne' : bb ≠ w.heap.size + 1 + 1 + 1 := fun e => hne (by rw [e])
    rw [Below.heap_setCell _ _ _ _ hne', Below.heap_setCell _ _ _ _ hne', key bb hb, h.grown.block bb hb hne]
  · exact ((show Blk x4 _ _ _ from (key _ (by omega)).trans h.out).set 5 _).set 6 _
  · refine hrw.push (by omega) (by omega) hx1 hg1 hx3 hg2 (fun bb hb => ?_) hsz hN hNat hS hSat ?_ ?_
    · have e : bb ≠ w.heap.size + 1 + 1 + 1 := by omega
      rw [Below.heap_setCell _ _ _ _ e, Below.heap_setCell _ _ _ _ e]
    · exact hc.ty.size
    · refine hc.ty.mono fun bb hb => ?_
      rcases hb with hb | hb
      · exact .inl hb
      · exact .inr ⟨by omega, hb.2, fun e => by have := hown1 bb e; omega, fun e => by have := hown2 bb e; omega⟩
  · rw [List.take_succ_eq_append_getElem h1, List.map_append, List.map_singleton, hs0, eithG, hs, Option.map_some, allSome_snoc, h.got]
    rfl
theorem eith_fits {r : Ty → Ty → Option Ty} {a b : Ty} (hf : Fits a) (hf' : Fits b) (hl : a.names.length ≤ 1000) (hl' : b.names.length ≤ 1000) {L : List (ByteArray × Ty)} (h : allSome ((unionN a.names b.names).map (eithG r a b)) = some L) : Fits (tyOf a.kind L) := by
  have hn := allSome_len _ _ h
  have hu := unionN_len a.names b.names
  rw [List.length_map] at hn
  have hnames : ∀ s ∈ L.map (·.1), s ∈ a.names ∨ s ∈ b.names := by
    have : ∀ (l : List ByteArray) (L : List (ByteArray × Ty)), allSome (l.map (eithG r a b)) = some L → L.map (·.1) = l := by
      intro l
      induction l with
      | nil => intro L h; simp [allSome] at h; subst h; rfl
      | cons n l ih =>
        intro L h
        rw [List.map_cons] at h
        cases he : eithE r a b n with
        | none => rw [eithG, he] at h; simp [allSome] at h
        | some t =>
          rw [eithG, he, Option.map_some, allSome, Option.map_eq_some_iff] at h
          obtain ⟨L', h', rfl⟩ := h
          rw [List.map_cons, ih _ h']
    intro s hs
    rw [this _ _ h] at hs
    exact (unionN_mem _ _ _).1 hs
  refine ⟨hf.kind, by simp [tyOf, Ty.major], Nat.zero_le _, Nat.zero_le _, Nat.zero_le _, ?_, ?_, ?_⟩
  · show (L.map (·.1)).length ≤ maxLen
    rw [List.length_map]
    unfold maxLen; omega
  · intro s hs
    rcases hnames s hs with h | h
    · exact hf.each _ h
    · exact hf'.each _ h
  · show (L.map (·.2)).length ≤ maxLen
    rw [List.length_map]
    unfold maxLen; omega
theorem EithRel.last {w W wr : World} {a b : Ty} {na sa na' sa' A : Option Addr} {nc sc nc' sc' B : Nat} {r : Ty → Ty → Option Ty} {nv sv : Value} {L : List (ByteArray × Ty)} {F : List (Array Value)} (h : EithRel w W wr a b B r nv sv L F (unionN a.names b.names).length) (h0 : Eith0 w W a b na nc sa sc na' nc' sa' sc' A)
    (hB : B ≤ w.heap.size) (hf : Fits (tyOf a.kind L)) (v0 v1 v2 v3 v4 v5 v6 : Value) :
    TyM (put7 wr (w.heap.size + 1 + 1) 0 v0 v1 v2 v3 v4 v5 v6) (fun b => b < B ∨ Fresh w (put7 wr (w.heap.size + 1 + 1) 0 v0 v1 v2 v3 v4 v5 v6) b) (tyOf a.kind L) #[.int .i64 a.kind, .string { data := #[] }, .int .i64 0, .string { data := #[] }, .string { data := #[] }, nv, sv] ∧
    Below w.heap.size w (put7 wr (w.heap.size + 1 + 1) 0 v0 v1 v2 v3 v4 v5 v6) := by
  have s0 := h0.size
  obtain ⟨na1, nc1, sa1, sc1, -, -, ht⟩ := h.rows.ty a.kind hf
  refine ⟨ht.move (fun b hb => ?_) (fun p hp => put7_cell _ _ _ _ _ _ _ ?_), put7_below _ _ _ _ _ _ _ (h.below h0) (by omega)⟩
  · rcases hb with hb | hb
    · exact .inl hb
    · exact .inr ⟨by omega, by rw [put7_size]; exact hb.2⟩
  · rcases hp with hp | hp
    · omega
    · have := hp.1; omega
end Go.Proofs.Ytalpmjmifcofeaa
