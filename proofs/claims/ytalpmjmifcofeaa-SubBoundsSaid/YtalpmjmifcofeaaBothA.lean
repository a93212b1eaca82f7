/- The contract of sub.both, by what bound does at the parts. -/
import Derived.Test.YtalpmjmifcofeaaOut2
import Derived.Deep.RegionLaw
import Derived.Deep.AppendLies
import Derived.Deep.DeepCutAuto
namespace Go.Proofs.Ytalpmjmifcofeaa
open Go.RowKit
set_option linter.unusedSimpArgs false
set_option linter.unusedVariables false
/-- what bound's contract says at one pair of types -/
def BoundAt (a b : Ty) (up : Bool) (r : Option Ty) : Prop := ∀ (cs cs' : Array Value) (B : Nat) (w : World), TyC w B a cs → TyC w B b cs' → B ≤ w.heap.size →
    Calls Try.prog 39 #[.agg cs, .agg cs', .bool up] w fun e w' => (∃ t cs'', e = .returned (.tuple #[.agg cs'', .bool r.isSome]) ∧ (∀ x, r = some x → t = x) ∧ TyM w' (fun b => b < B ∨ Fresh w w' b) t cs'') ∧ Below w.heap.size w w'
def bothL (r : Ty → Ty → Option Ty) (b : Ty) : List ByteArray → List Ty → List (ByteArray × Ty)
  | n :: ns, s :: ss => (if memB n b.names then (match r s (ofT b n) with | some t => [(n, t)] | none => []) else []) ++ bothL r b ns ss
  | _, _ => []
theorem bothL_take (r : Ty → Ty → Option Ty) (b : Ty) : ∀ (ns : List ByteArray) (ss : List Ty) (k : Nat) (h : k < ns.length) (h' : k < ss.length),
    bothL r b (ns.take (k + 1)) (ss.take (k + 1)) = bothL r b (ns.take k) (ss.take k) ++ (if memB ns[k] b.names then (match r ss[k] (ofT b ns[k]) with | some t => [(ns[k], t)] | none => []) else [])
  | n :: ns, s :: ss, 0, _, _ => by simp [bothL]
  | n :: ns, s :: ss, k + 1, h, h' => by
    simp only [List.take_succ_cons, bothL, List.getElem_cons_succ, List.append_assoc]
    rw [bothL_take r b ns ss k (by simpa using h) (by simpa using h')]
  | [], _, _, h, _ => by simp at h
  | _ :: _, [], _, _, h => by simp at h
theorem bothL_len (r : Ty → Ty → Option Ty) (b : Ty) : ∀ (ns : List ByteArray) (ss : List Ty), (bothL r b ns ss).length ≤ ns.length
  | [], _ => by simp [bothL]
  | _ :: _, [] => by simp [bothL]
  | n :: ns, s :: ss => by
    have := bothL_len r b ns ss
    rw [bothL, List.length_append, List.length_cons]
    have : (if memB n b.names then (match r s (ofT b n) with | some t => [(n, t)] | none => []) else []).length ≤ 1 := by
      split
      · split <;> simp
      · simp
    omega
theorem boxes4 (w : World) (c0 c1 c2 c3 : Array Value) (T : TypeId) : Blk ((((w.alloc (.cells c0 T)).alloc (.cells c1 T)).alloc (.cells c2 T)).alloc (.cells c3 T)) w.heap.size c0 T ∧ Blk ((((w.alloc (.cells c0 T)).alloc (.cells c1 T)).alloc (.cells c2 T)).alloc (.cells c3 T)) (w.heap.size + 1) c1 T ∧
    Blk ((((w.alloc (.cells c0 T)).alloc (.cells c1 T)).alloc (.cells c2 T)).alloc (.cells c3 T)) (w.heap.size + 1 + 1) c2 T ∧ Blk ((((w.alloc (.cells c0 T)).alloc (.cells c1 T)).alloc (.cells c2 T)).alloc (.cells c3 T)) (w.heap.size + 1 + 1 + 1) c3 T ∧
    ((((w.alloc (.cells c0 T)).alloc (.cells c1 T)).alloc (.cells c2 T)).alloc (.cells c3 T)).heap.size = w.heap.size + 4 ∧ Below w.heap.size w ((((w.alloc (.cells c0 T)).alloc (.cells c1 T)).alloc (.cells c2 T)).alloc (.cells c3 T)) := by
  have e1 : (w.alloc (.cells c0 T)).heap.size = w.heap.size + 1 := by simp
  have e2 : ((w.alloc (.cells c0 T)).alloc (.cells c1 T)).heap.size = w.heap.size + 1 + 1 := by simp
  have e3 : (((w.alloc (.cells c0 T)).alloc (.cells c1 T)).alloc (.cells c2 T)).heap.size = w.heap.size + 1 + 1 + 1 := by simp
  have b1 := Blk.new (w.alloc (.cells c0 T)) c1 T
  have b2 := Blk.new ((w.alloc (.cells c0 T)).alloc (.cells c1 T)) c2 T
  have b3 := Blk.new (((w.alloc (.cells c0 T)).alloc (.cells c1 T)).alloc (.cells c2 T)) c3 T
  rw [e1] at b1
  rw [e2] at b2
  rw [e3] at b3
  exact ⟨(((Blk.new w c0 T).alloc _).alloc _).alloc _, (b1.alloc _).alloc _, b2.alloc _, b3, by simp, ((((Below.refl _ _).alloc (Nat.le_refl _) _).alloc (by simp) _).alloc (by simp; omega) _).alloc (by simp; omega) _⟩
structure BothRel (w wr : World) (a b : Ty) (na : Option Addr) (nc : Nat) (sa : Option Addr) (sc : Nat) (na' : Option Addr) (nc' : Nat) (sa' : Option Addr) (sc' : Nat) (B : Nat) (r : Ty → Ty → Option Ty) (nv sv : Value) (F : List (Array Value)) (k : Nat) : Prop where
  below : Below w.heap.size w wr
  size : w.heap.size + 4 ≤ wr.heap.size
  boxa : Blk wr w.heap.size (tyCells a na nc sa sc) 25
  boxb : Blk wr (w.heap.size + 1) (tyCells b na' nc' sa' sc') 25
  res : Blk wr (w.heap.size + 1 + 1) #[.int .i64 0, .string { data := #[] }, .int .i64 0, .string { data := #[] }, .string { data := #[] }, .slice none 0 0, .slice none 0 0] 25
  out : Blk wr (w.heap.size + 1 + 1 + 1) #[.int .i64 a.kind, .string { data := #[] }, .int .i64 0, .string { data := #[] }, .string { data := #[] }, nv, sv] 25
  rows : Out2 wr B (w.heap.size + 4) nv sv (bothL r b (a.names.take k) (a.subs.take k)) F
def stepB (r : Ty → Ty → Option Ty) (b : Ty) (n : ByteArray) (s : Ty) : List (ByteArray × Ty) := if memB n b.names then (match r s (ofT b n) with | some t => [(n, t)] | none => []) else []
theorem BothRel.skip {w wr w' : World} {a b : Ty} {na sa na' sa' : Option Addr} {nc sc nc' sc' B k : Nat} {r : Ty → Ty → Option Ty} {nv sv : Value} {F : List (Array Value)} (h : BothRel w wr a b na nc sa sc na' nc' sa' sc' B r nv sv F k)
    (h1 : k < a.names.length) (h2 : k < a.subs.length) (hB : B ≤ w.heap.size) (hb : Below wr.heap.size wr w') (he : stepB r b a.names[k] a.subs[k] = []) : BothRel w w' a b na nc sa sc na' nc' sa' sc' B r nv sv F (k + 1) := by
  have hs := h.size
  have hbs := hb.size
  refine ⟨h.below.trans (hb.mono (by omega)), by omega, h.boxa.under hb h.boxa.lt, h.boxb.under hb h.boxb.lt, h.res.under hb h.res.lt, h.out.under hb h.out.lt, ?_⟩
  rw [bothL_take r b a.names a.subs k h1 h2]
  rw [stepB] at he
  rw [he, List.append_nil]
  exact h.rows.under hb (by omega)
/-- what lies behind the call of bound and the box of its result -/
structure CutRel (wr wx : World) (B : Nat) (t : Ty) (cs : Array Value) (tb : Nat) : Prop where
  below : Below wr.heap.size wr wx
  blk : Blk wx tb cs 25
  lo : wr.heap.size ≤ tb
  ty : TyM wx (fun b => b < B ∨ (wr.heap.size ≤ b ∧ b < wx.heap.size)) t cs
theorem CutRel.one {wr W2 X w3 : World} {B : Nat} {t : Ty} {cs : Array Value} (hB : B ≤ wr.heap.size) (h2 : Below wr.heap.size wr W2) (h3 : Below W2.heap.size W2 w3) (hX : W2.heap.size ≤ X.heap.size) (ht : TyM w3 (fun b => b < B ∨ Fresh X w3 b) t cs) :
    CutRel wr (w3.alloc (.cells cs 25)) B t cs w3.heap.size := by
  have s2 := h2.size
  have s3 := h3.size
  refine ⟨(acc0 h2 s2 h3).alloc (by omega) _, Blk.new _ _ _, by omega, ht.move (fun b hb => ?_) (fun p hp => ?_)⟩
  · rcases hb with hb | hb
    · exact .inl hb
    · refine .inr ⟨?_, ?_⟩
      · have := hb.1; omega
      · have := hb.2; simp; omega
  · refine World.cell?_alloc_lt _ _ _ ?_
    rcases hp with hp | hp
    · omega
    · exact hp.2
theorem arr7_lit (a0 a1 a2 a3 a4 a5 a6 v0 v1 v2 v3 v4 v5 v6 : Value) : arr7 #[a0, a1, a2, a3, a4, a5, a6] 0 v0 v1 v2 v3 v4 v5 v6 = #[v0, v1, v2, v3, v4, v5, v6] := by
  apply Array.ext_getElem?
  intro i
  by_cases h : i < 7
  · have e := arr7_in (c := #[a0, a1, a2, a3, a4, a5, a6]) (o := 0) (j := i) (v0 := v0) (v1 := v1) (v2 := v2) (v3 := v3) (v4 := v4) (v5 := v5) (v6 := v6) (by simp) h
    rw [Nat.zero_add] at e
    exact e
  · rw [arr7_out (.inr (by omega)), Array.getElem?_eq_none (by simp; omega), Array.getElem?_eq_none (by simp; omega)]
theorem CutRel.two {wr W2 X w3 : World} {B : Nat} {t : Ty} {na sa : Option Addr} {nc sc : Nat} (hB : B ≤ wr.heap.size) (h2 : Below wr.heap.size wr W2) (h3 : Below W2.heap.size W2 w3) (hX : W2.heap.size + 1 ≤ X.heap.size)
    (hb : Blk w3 W2.heap.size #[.int .i64 0, .string { data := #[] }, .int .i64 0, .string { data := #[] }, .string { data := #[] }, .slice none 0 0, .slice none 0 0] 25) (ht : TyM w3 (fun b => b < B ∨ Fresh X w3 b) t (tyCells t na nc sa sc)) :
    CutRel wr (((((((((((((w3.setCell ⟨W2.heap.size, 0, none⟩ (.int .i64 t.kind))).setCell ⟨W2.heap.size, 1, none⟩ (.string t.pkg))).setCell ⟨W2.heap.size, 2, none⟩ (.int .i64 t.major))).setCell ⟨W2.heap.size, 3, none⟩ (.string t.mod))).setCell ⟨W2.heap.size, 4, none⟩ (.string t.name))).setCell ⟨W2.heap.size, 5, none⟩ (.slice na t.names.length nc))).setCell ⟨W2.heap.size, 6, none⟩ (.slice sa t.subs.length sc)) B t (tyCells t na nc sa sc) W2.heap.size := by
  have hput : put7 w3 W2.heap.size 0 (.int .i64 t.kind) (.string t.pkg) (.int .i64 t.major) (.string t.mod) (.string t.name) (.slice na t.names.length nc) (.slice sa t.subs.length sc) = (((((((((((((w3.setCell ⟨W2.heap.size, 0, none⟩ (.int .i64 t.kind))).setCell ⟨W2.heap.size, 1, none⟩ (.string t.pkg))).setCell ⟨W2.heap.size, 2, none⟩ (.int .i64 t.major))).setCell ⟨W2.heap.size, 3, none⟩ (.string t.mod))).setCell ⟨W2.heap.size, 4, none⟩ (.string t.name))).setCell ⟨W2.heap.size, 5, none⟩ (.slice na t.names.length nc))).setCell ⟨W2.heap.size, 6, none⟩ (.slice sa t.subs.length sc)) := by
    simp only [put7, Nat.zero_add]
  rw [← hput]
  have hbk := put7_blk (o := 0) (.int .i64 t.kind) (.string t.pkg) (.int .i64 t.major) (.string t.mod) (.string t.name) (.slice na t.names.length nc) (.slice sa t.subs.length sc) hb
  rw [arr7_lit] at hbk
  have s2 := h2.size
  have s3 := h3.size
  refine ⟨put7_below _ _ _ _ _ _ _ (acc0 h2 s2 h3) (by omega), hbk, by omega, ht.move (fun b hb => ?_) (fun p hp => ?_)⟩
  · rw [put7_size]
    rcases hb with hb | hb
    · exact .inl hb
    · have := hb.1
      exact .inr ⟨by omega, hb.2⟩
  · refine put7_cell _ _ _ _ _ _ _ ?_
    rcases hp with hp | hp
    · omega
    · have := hp.1; omega
/-- behind the names' append: the other row, the two boxes -/
theorem grown_rest {wc X w1 : World} {B base bx tb : Nat} {nv sv : Value} {L : List (ByteArray × Ty)} {F : List (Array Value)} {C D : Array Value} {T : TypeId} (h : Out2 wc B base nv sv L F) (hX : Below wc.heap.size wc X) (hg : X.grownBy w1 nv.ownBlock)
    (hbx : Blk wc bx C T) (htb : Blk wc tb D T) (h1 : nv.ownBlock ≠ some bx) (h2 : nv.ownBlock ≠ some tb) :
    w1.ownsRow base 25 7 sv L.length (F.flatMap (·.toList)) ∧ Blk w1 bx C T ∧ Blk w1 tb D T := by
  have s := hX.size
  have key : ∀ b, b < wc.heap.size → nv.ownBlock ≠ some b → w1.heap[b]? = wc.heap[b]? := fun b hb hn => (hg.block b (by omega) (fun e => hn e.symm)).trans (hX.block b hb)
  exact ⟨owns_keep h.row2 fun g hgg => key g (owns_lt h.row2 hgg).2 (fun e => h.apart g e hgg), (key bx hbx.lt h1).trans hbx, (key tb htb.lt h2).trans htb⟩
theorem grown_box {X w1 : World} {bx : Nat} {row : Option Nat} {C : Array Value} {T : TypeId} (hg : X.grownBy w1 row) (hbx : Blk X bx C T) (h1 : row ≠ some bx) : Blk w1 bx C T := (hg.block bx hbx.lt (fun e => h1 e.symm)).trans hbx
theorem BothRel.next {w wr wc x1 x2 x3 x4 : World} {a b : Ty} {na sa na' sa' : Option Addr} {nc sc nc' sc' B k gN cN gS cS tb : Nat} {r : Ty → Ty → Option Ty} {nv sv : Value} {L : List (ByteArray × Ty)} {F : List (Array Value)} {t : Ty} {c : Array Value}
    (h : BothRel w wr a b na nc sa sc na' nc' sa' sc' B r nv sv F k) (hB : B ≤ w.heap.size) (h1 : k < a.names.length) (h2 : k < a.subs.length) (hc : CutRel wr wc B t c tb) (hL : bothL r b (a.names.take k) (a.subs.take k) = L) (hs : stepB r b a.names[k] a.subs[k] = [(a.names[k], t)])
    (hx1 : Below wc.heap.size wc x1) (hg1 : x1.grownBy x2 nv.ownBlock) (hx3 : Below x2.heap.size x2 x3) (hg2 : x3.grownBy x4 sv.ownBlock)
    (hN : x2.ownsRow (w.heap.size + 4) 9 1 (.slice (some ⟨gN, 0, none⟩) (L.length + 1) cN) (L.length + 1) ((L.map fun p => Value.string p.1) ++ [.string a.names[k]])) (hNat : nv.ownBlock = some gN ∨ wc.heap.size ≤ gN)
    (hS : x4.ownsRow (w.heap.size + 4) 25 7 (.slice (some ⟨gS, 0, none⟩) (L.length + 1) cS) (L.length + 1) (F.flatMap (·.toList) ++ c.toList)) (hSat : sv.ownBlock = some gS ∨ x2.heap.size ≤ gS) :
    BothRel w ((x4.setCell ⟨w.heap.size + 1 + 1 + 1, 5, none⟩ (.slice (some ⟨gN, 0, none⟩) (L.length + 1) cN)).setCell ⟨w.heap.size + 1 + 1 + 1, 6, none⟩ (.slice (some ⟨gS, 0, none⟩) (L.length + 1) cS)) a b na nc sa sc na' nc' sa' sc' B r
      (.slice (some ⟨gN, 0, none⟩) (L.length + 1) cN) (.slice (some ⟨gS, 0, none⟩) (L.length + 1) cS) (F ++ [c]) (k + 1) := by
  subst hL
  have s0 := h.size
  have sc := hc.below.size
  have s1 := hx1.size
  have s2 := hg1.size
  have s3 := hx3.size
  have s4 := hg2.size
  have hrw := h.rows.under hc.below (by omega)
  have hown1 : ∀ g, nv.ownBlock = some g → w.heap.size + 4 ≤ g ∧ g < wr.heap.size := fun g hg => owns_lt h.rows.row1 hg
  have hown2 : ∀ g, sv.ownBlock = some g → w.heap.size + 4 ≤ g ∧ g < wr.heap.size := fun g hg => owns_lt h.rows.row2 hg
  have key : ∀ bb, bb < w.heap.size + 4 → x4.heap[bb]? = wr.heap[bb]? := by
    intro bb hb
    rw [hg2.block bb (by omega) (fun e => by have := hown2 bb e.symm; omega), hx3.block bb (by omega), hg1.block bb (by omega) (fun e => by have := hown1 bb e.symm; omega), hx1.block bb (by omega), hc.below.block bb (by omega)]
  have hk4 : ∀ {bb C T}, bb < w.heap.size + 4 → Blk wr bb C T → Blk x4 bb C T := fun hb hB => (key _ hb).trans hB
  have hB4 : Below w.heap.size w x4 := by
    refine ⟨?_, ?_, ?_, by omega, fun bb hb => (key bb (by omega)).trans (h.below.block bb hb)⟩
    · rw [hg2.os, hx3.os, hg1.os, hx1.os, hc.below.os, h.below.os]
    · rw [hg2.tape, hx3.tape, hg1.tape, hx1.tape, hc.below.tape, h.below.tape]
    · rw [hg2.output, hx3.output, hg1.output, hx1.output, hc.below.output, h.below.output]
  have hsz : ((x4.setCell ⟨w.heap.size + 1 + 1 + 1, 5, none⟩ (.slice (some ⟨gN, 0, none⟩) ((bothL r b (a.names.take k) (a.subs.take k)).length + 1) cN)).setCell ⟨w.heap.size + 1 + 1 + 1, 6, none⟩ (.slice (some ⟨gS, 0, none⟩) ((bothL r b (a.names.take k) (a.subs.take k)).length + 1) cS)).heap.size = x4.heap.size := by simp [World.setCell]
  refine ⟨(hB4.setCell (p := ⟨w.heap.size + 1 + 1 + 1, 5, none⟩) (by simp; omega) _).setCell (p := ⟨w.heap.size + 1 + 1 + 1, 6, none⟩) (by simp; omega) _, by rw [hsz]; omega,
    ((hk4 (by omega) h.boxa).far _ _ (by simp; omega)).far _ _ (by simp; omega), ((hk4 (by omega) h.boxb).far _ _ (by simp)).far _ _ (by simp), ((hk4 (by omega) h.res).far _ _ (by simp)).far _ _ (by simp),
    ((hk4 (by omega) h.out).set 5 _).set 6 _, ?_⟩
  rw [bothL_take r b a.names a.subs k h1 h2]
  rw [stepB] at hs
  rw [hs]
  refine hrw.push (by omega) (by omega) hx1 hg1 hx3 hg2 (fun bb hb => ?_) hsz hN hNat hS hSat ?_ ?_
  · rw [Below.heap_setCell _ _ _ _ (by simp; omega), Below.heap_setCell _ _ _ _ (by simp; omega)]
  · exact hc.ty.size
  · refine hc.ty.mono fun bb hb => ?_
    rcases hb with hb | hb
    · exact .inl hb
    · exact .inr ⟨by omega, hb.2, fun e => by have := hown1 bb e; omega, fun e => by have := hown2 bb e; omega⟩
theorem Out2.ty {w : World} {B base : Nat} {nv sv : Value} {L : List (ByteArray × Ty)} {F : List (Array Value)} (h : Out2 w B base nv sv L F) (k : Int)
    (hf : Fits (.mk k { data := #[] } 0 { data := #[] } { data := #[] } (L.map (·.1)) (L.map (·.2)))) :
    ∃ na nc sa sc, nv = .slice na L.length nc ∧ sv = .slice sa L.length sc ∧
      TyM w (fun b => b < B ∨ (base ≤ b ∧ b < w.heap.size)) (.mk k { data := #[] } 0 { data := #[] } { data := #[] } (L.map (·.1)) (L.map (·.2))) #[.int .i64 k, .string { data := #[] }, .int .i64 0, .string { data := #[] }, .string { data := #[] }, nv, sv] := by
  have hn : ∃ na nc, nv = .slice na L.length nc ∧ L.length ≤ nc ∧ StrsM w (fun b => b < B ∨ (base ≤ b ∧ b < w.heap.size)) na (L.map (·.1)) := by
    have h1 := h.row1
    obtain ⟨hl, ⟨hv, h0⟩ | ⟨g, cap, cur, hv, hg, hh, hn, -⟩⟩ := h.row1
    · have : L = [] := by simpa using h0
      subst this
      exact ⟨none, 0, hv, Nat.le_refl _, .inl rfl⟩
    · subst hv
      refine ⟨_, _, rfl, hn, .inr ⟨g, 0, rfl, .inr ⟨hg, (Array.getElem?_eq_some_iff.1 hh).1⟩, fun i hi => ?_⟩⟩
      have hi' : i < L.length := by simpa using hi
      rw [Nat.zero_add, owns_cell h1 (by omega)]
      simp [hi']
  have hs : ∃ sa sc, sv = .slice sa L.length sc ∧ L.length ≤ sc ∧ RowsM w (fun b => b < B ∨ (base ≤ b ∧ b < w.heap.size)) sa L.length (fun i => F.getD i #[]) := by
    have h1 := h.row2
    obtain ⟨hl, ⟨hv, h0⟩ | ⟨g, cap, cur, hv, hg, hh, hn, -⟩⟩ := h.row2
    · exact ⟨none, 0, by rw [hv, h0], by omega, .inl h0⟩
    · subst hv
      refine ⟨_, _, rfl, hn, .inr ⟨g, 0, rfl, .inr ⟨hg, (Array.getElem?_eq_some_iff.1 hh).1⟩, fun i hi j hj => ?_⟩⟩
      have hif : i < F.length := by rw [h.len]; exact hi
      have hF : F.getD i #[] = F[i] := by simp [List.getD, hif]
      dsimp only at hj ⊢
      rw [hF] at hj ⊢
      have h7 := h.seven F[i] (List.getElem_mem hif)
      rw [Nat.zero_add, owns_cell h1 (by omega)]
      exact flat_at F h.seven i hif j (by omega)
  obtain ⟨na, nc, rfl, hnc, hnm⟩ := hn
  obtain ⟨sa, sc, rfl, hsc, hsm⟩ := hs
  refine ⟨na, nc, sa, sc, rfl, rfl, ?_⟩
  have := TyM.mk (w := w) (M := fun b => b < B ∨ (base ≤ b ∧ b < w.heap.size)) (.mk k { data := #[] } 0 { data := #[] } { data := #[] } (L.map fun p => p.1) (L.map fun p => p.2)) na nc sa sc (fun i => F.getD i #[]) hf (by simpa [Ty.names] using hnm) (by simpa [Ty.subs] using hsm) (by simpa [Ty.names] using hnc) (by simpa [Ty.subs] using hsc) (fun i hi => ?_)
  · simpa [tyCells, Ty.kind, Ty.pkg, Ty.major, Ty.mod, Ty.name, Ty.names, Ty.subs] using this
  · have hi' : i < L.length := by simpa [Ty.subs] using hi
    have hif : i < F.length := by rw [h.len]; exact hi'
    have hF : F.getD i #[] = F[i] := by simp [List.getD, hif]
    rw [hF]
    have e := h.each i hi' hif
    have : (Ty.mk k { data := #[] } 0 { data := #[] } { data := #[] } (L.map (·.1)) (L.map (·.2))).subs[i] = L[i].2 := by simp [Ty.subs]
    rw [this]
    exact e.mono fun b hb => by
      rcases hb with hb | hb
      · exact .inl hb
      · exact .inr ⟨hb.1, hb.2.1⟩
theorem bothL_mem (r : Ty → Ty → Option Ty) (b : Ty) : ∀ (ns : List ByteArray) (ss : List Ty) (p : ByteArray × Ty), p ∈ bothL r b ns ss → p.1 ∈ ns
  | [], _, p, h => by simp [bothL] at h
  | _ :: _, [], p, h => by simp [bothL] at h
  | n :: ns, s :: ss, p, h => by
    rw [bothL, List.mem_append] at h
    rcases h with h | h
    · split at h
      · split at h
        · simp at h; rw [h]; simp
        · simp at h
      · simp at h
    · exact List.mem_cons_of_mem _ (bothL_mem r b ns ss p h)
theorem bothL_full (r : Ty → Ty → Option Ty) (b : Ty) : ∀ (ns : List ByteArray) (ss : List Ty), bothL r b (ns.take ns.length) (ss.take ns.length) = bothL r b ns ss
  | [], _ => by simp [bothL]
  | _ :: _, [] => by simp [bothL]
  | n :: ns, s :: ss => by
    simp only [List.length_cons, List.take_succ_cons, bothL]
    rw [bothL_full r b ns ss]
theorem both_fits {r : Ty → Ty → Option Ty} {a b : Ty} (hf : Fits a) (hl : a.names.length ≤ 20) :
    Fits (.mk a.kind { data := #[] } 0 { data := #[] } { data := #[] } ((bothL r b a.names a.subs).map (·.1)) ((bothL r b a.names a.subs).map (·.2))) := by
  have := bothL_len r b a.names a.subs
  refine ⟨hf.kind, by simp [Ty.major], Nat.zero_le _, Nat.zero_le _, Nat.zero_le _, ?_, ?_, ?_⟩
  · show ((bothL r b a.names a.subs).map (·.1)).length ≤ maxLen
    rw [List.length_map]
    unfold maxLen; omega
  · intro s hs
    have hs : s ∈ (bothL r b a.names a.subs).map (·.1) := hs
    rw [List.mem_map] at hs
    obtain ⟨p, hp, rfl⟩ := hs
    exact hf.each _ (bothL_mem r b _ _ p hp)
  · show ((bothL r b a.names a.subs).map (·.2)).length ≤ maxLen
    rw [List.length_map]
    unfold maxLen; omega
theorem BothRel.last {w wr : World} {a b : Ty} {na sa na' sa' : Option Addr} {nc sc nc' sc' B k : Nat} {r : Ty → Ty → Option Ty} {nv sv : Value} {F : List (Array Value)} (h : BothRel w wr a b na nc sa sc na' nc' sa' sc' B r nv sv F k)
    (hk : k = a.names.length) (hB : B ≤ w.heap.size) (hf : Fits a) (hl : a.names.length ≤ 20) (v0 v1 v2 v3 v4 v5 v6 : Value) :
    (∃ cs, cs = #[.int .i64 a.kind, .string { data := #[] }, .int .i64 0, .string { data := #[] }, .string { data := #[] }, nv, sv] ∧
      TyM (put7 wr (w.heap.size + 1 + 1) 0 v0 v1 v2 v3 v4 v5 v6) (fun b => b < B ∨ Fresh w (put7 wr (w.heap.size + 1 + 1) 0 v0 v1 v2 v3 v4 v5 v6) b) (.mk a.kind { data := #[] } 0 { data := #[] } { data := #[] } ((bothL r b a.names a.subs).map (·.1)) ((bothL r b a.names a.subs).map (·.2))) cs) ∧
    Below w.heap.size w (put7 wr (w.heap.size + 1 + 1) 0 v0 v1 v2 v3 v4 v5 v6) := by
  subst hk
  have hrw := h.rows
  rw [bothL_full] at hrw
  obtain ⟨na1, nc1, sa1, sc1, -, -, ht⟩ := hrw.ty a.kind (both_fits hf hl)
  refine ⟨⟨_, rfl, ht.move (fun b hb => ?_) (fun p hp => put7_cell _ _ _ _ _ _ _ ?_)⟩, put7_below _ _ _ _ _ _ _ h.below (by omega)⟩
  · rcases hb with hb | hb
    · exact .inl hb
    · exact .inr ⟨by omega, by rw [put7_size]; exact hb.2⟩
  · rcases hp with hp | hp
    · omega
    · have := hp.1; omega
/-- the same, cell by cell -/
theorem grown_rest2 {wc X w1 : World} {B base bx tb : Nat} {nv sv u0 u1 u2 u3 u4 v0 v1 v2 v3 v4 v5 v6 : Value} {L : List (ByteArray × Ty)} {F : List (Array Value)} {T : TypeId} (h : Out2 wc B base nv sv L F) (hX : Below wc.heap.size wc X) (hg : X.grownBy w1 nv.ownBlock)
    (hbx : Blk wc bx #[u0, u1, u2, u3, u4, nv, sv] T) (htb : Blk wc tb #[v0, v1, v2, v3, v4, v5, v6] T) (h1 : nv.ownBlock ≠ some bx) (h2 : nv.ownBlock ≠ some tb) :
    w1.ownsRow base 25 7 sv L.length (F.flatMap (·.toList)) ∧ Blk w1 bx #[u0, u1, u2, u3, u4, nv, sv] T ∧ w1.cell? ⟨bx, 6, none⟩ = some sv ∧ bx < w1.heap.size ∧ tb < w1.heap.size ∧
    w1.cell? ⟨tb, 0, none⟩ = some v0 ∧ w1.cell? ⟨tb, 1, none⟩ = some v1 ∧ w1.cell? ⟨tb, 2, none⟩ = some v2 ∧ w1.cell? ⟨tb, 3, none⟩ = some v3 ∧ w1.cell? ⟨tb, 4, none⟩ = some v4 ∧ w1.cell? ⟨tb, 5, none⟩ = some v5 ∧ w1.cell? ⟨tb, 6, none⟩ = some v6 := by
  obtain ⟨a, b, c⟩ := grown_rest h hX hg hbx htb h1 h2
  exact ⟨a, b, b.cell 6, b.lt, c.lt, c.cell 0, c.cell 1, c.cell 2, c.cell 3, c.cell 4, c.cell 5, c.cell 6⟩
theorem grown_box2 {X w1 : World} {bx : Nat} {row : Option Nat} {u0 u1 u2 u3 u4 u5 u6 : Value} {T : TypeId} (hg : X.grownBy w1 row) (hbx : Blk X bx #[u0, u1, u2, u3, u4, u5, u6] T) (h1 : row ≠ some bx) :
    w1.cell? ⟨bx, 5, none⟩ = some u5 ∧ w1.cell? ⟨bx, 6, none⟩ = some u6 ∧ w1.frozen? ⟨bx, 5, none⟩ = false ∧ w1.frozen? ⟨bx, 6, none⟩ = false := by
  have h := grown_box hg hbx h1
  exact ⟨h.cell 5, h.cell 6, h.free 5, h.free 6⟩
theorem put7_zero (w : World) (g : Nat) (v0 v1 v2 v3 v4 v5 v6 : Value) : put7 w g 0 v0 v1 v2 v3 v4 v5 v6 = (((((((w.setCell ⟨g, 0, none⟩ v0).setCell ⟨g, 1, none⟩ v1).setCell ⟨g, 2, none⟩ v2).setCell ⟨g, 3, none⟩ v3).setCell ⟨g, 4, none⟩ v4).setCell ⟨g, 5, none⟩ v5).setCell ⟨g, 6, none⟩ v6) := by
  simp only [put7, Nat.zero_add]
/-- a result box, written whole -/
theorem put7_full {w : World} {g : Nat} {T : TypeId} {a0 a1 a2 a3 a4 a5 a6 : Value} (v0 v1 v2 v3 v4 v5 v6 : Value) (h : Blk w g #[a0, a1, a2, a3, a4, a5, a6] T) :
    Blk (((((((w.setCell ⟨g, 0, none⟩ v0).setCell ⟨g, 1, none⟩ v1).setCell ⟨g, 2, none⟩ v2).setCell ⟨g, 3, none⟩ v3).setCell ⟨g, 4, none⟩ v4).setCell ⟨g, 5, none⟩ v5).setCell ⟨g, 6, none⟩ v6) g #[v0, v1, v2, v3, v4, v5, v6] T := by
  have := put7_blk (o := 0) v0 v1 v2 v3 v4 v5 v6 h
  rw [arr7_lit, put7_zero] at this
  exact this
theorem put7_bel {w w1 : World} {B g : Nat} (v0 v1 v2 v3 v4 v5 v6 : Value) (h : Below B w w1) (hg : B ≤ g) :
    Below B w (((((((w1.setCell ⟨g, 0, none⟩ v0).setCell ⟨g, 1, none⟩ v1).setCell ⟨g, 2, none⟩ v2).setCell ⟨g, 3, none⟩ v3).setCell ⟨g, 4, none⟩ v4).setCell ⟨g, 5, none⟩ v5).setCell ⟨g, 6, none⟩ v6) := by
  rw [← put7_zero]
  exact put7_below _ _ _ _ _ _ _ h hg
theorem own_form {w : World} {base e size n : Nat} {v : Value} {xs : List Value} (h : w.ownsRow base e size v n xs) : ∃ (A : Option Addr) (m c : Nat), v = .slice A m c := by
  obtain ⟨-, ⟨rfl, -⟩ | ⟨g, cap, cur, rfl, -⟩⟩ := h
  · exact ⟨none, 0, 0, rfl⟩
  · exact ⟨_, _, _, rfl⟩
end Go.Proofs.Ytalpmjmifcofeaa
