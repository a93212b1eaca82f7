/- The contract of merlonref04.Copy: the same tree in memory of the call's own; the premise: few types. (CpA and CpD over Out2.) -/
import Derived.Test.YtjeldfipipkfiaaGreatGMent
import Derived.Test.YtjeldfipipkfiaaGreatGReg
import Derived.Test.YtjeldfipipkfiaaGreatGRefK
import Derived.Deep.RegionHeld3
import Derived.Deep.Cut
import Derived.Deep.DeepCutAuto
namespace Go.Proofs.YtjeldfipipkfiaaGreat
open Go.RowKit
set_option linter.unusedSimpArgs false
set_option linter.unusedVariables false
theorem arr7_lit (a0 a1 a2 a3 a4 a5 a6 v0 v1 v2 v3 v4 v5 v6 : Value) : arr7 #[a0, a1, a2, a3, a4, a5, a6] 0 v0 v1 v2 v3 v4 v5 v6 = #[v0, v1, v2, v3, v4, v5, v6] := by
  apply Array.ext_getElem?
  intro i
  by_cases h : i < 7
  · have e := arr7_in (c := #[a0, a1, a2, a3, a4, a5, a6]) (o := 0) (j := i) (v0 := v0) (v1 := v1) (v2 := v2) (v3 := v3) (v4 := v4) (v5 := v5) (v6 := v6) (by simp) h
    rw [Nat.zero_add] at e
    exact e
  · rw [arr7_out (.inr (by omega)), Array.getElem?_eq_none (by simp; omega), Array.getElem?_eq_none (by simp; omega)]
theorem grown_box {X w1 : World} {bx : Nat} {row : Option Nat} {C : Array Value} {T : TypeId} (hg : X.grownBy w1 row) (hbx : Blk X bx C T) (h1 : row ≠ some bx) : Blk w1 bx C T := (hg.block bx hbx.lt (fun e => h1 e.symm)).trans hbx
theorem put7_zero (w : World) (g : Nat) (v0 v1 v2 v3 v4 v5 v6 : Value) : put7 w g 0 v0 v1 v2 v3 v4 v5 v6 = (((((((w.setCell ⟨g, 0, none⟩ v0).setCell ⟨g, 1, none⟩ v1).setCell ⟨g, 2, none⟩ v2).setCell ⟨g, 3, none⟩ v3).setCell ⟨g, 4, none⟩ v4).setCell ⟨g, 5, none⟩ v5).setCell ⟨g, 6, none⟩ v6) := by
  simp only [put7, Nat.zero_add]
theorem put7_full {w : World} {g : Nat} {T : TypeId} {a0 a1 a2 a3 a4 a5 a6 : Value} (v0 v1 v2 v3 v4 v5 v6 : Value) (h : Blk w g #[a0, a1, a2, a3, a4, a5, a6] T) :
    Blk (((((((w.setCell ⟨g, 0, none⟩ v0).setCell ⟨g, 1, none⟩ v1).setCell ⟨g, 2, none⟩ v2).setCell ⟨g, 3, none⟩ v3).setCell ⟨g, 4, none⟩ v4).setCell ⟨g, 5, none⟩ v5).setCell ⟨g, 6, none⟩ v6) g #[v0, v1, v2, v3, v4, v5, v6] T := by
  have := put7_blk (o := 0) v0 v1 v2 v3 v4 v5 v6 h
  rw [arr7_lit, put7_zero] at this
  exact this
theorem laid0 (w : World) (C : Array Value) (T : TypeId) : Below w.heap.size w (w.alloc (.cells C T)) ∧ (w.alloc (.cells C T)).heap[w.heap.size]? = some (.cells C T (0, 0)) ∧ (w.alloc (.cells C T)).heap.size = w.heap.size + 1 :=
  ⟨(Below.refl _ _).alloc (Nat.le_refl _) _, heap_alloc_new w _, by simp⟩
structure Row1 (w : World) (B base : Nat) (sv : Value) (L : List Ty) (F : List (Array Value)) : Prop where
  len : F.length = L.length
  row : w.ownsRow base 53 7 sv L.length (F.flatMap (·.toList))
  seven : ∀ c ∈ F, c.size = 7
  each : ∀ i (h : i < L.length) (h' : i < F.length), TyM w (InM w B base (.slice none 0 0) sv) L[i] F[i]
theorem Row1.under {w w' : World} {B base : Nat} {sv : Value} {L : List Ty} {F : List (Array Value)} (h : Row1 w B base sv L F) (hb : Below w.heap.size w w') (hB : B ≤ w.heap.size) : Row1 w' B base sv L F :=
  ⟨h.len, owns_under h.row hb, h.seven, fun i hi hi' => (h.each i hi hi').move (fun b hM => by
    rcases hM with hM | hM
    · exact .inl hM
    · exact .inr ⟨hM.1, Nat.lt_of_lt_of_le hM.2.1 hb.size, hM.2.2⟩) (fun p hp => by
    rcases hp with hp | hp
    · exact hb.cell (Nat.lt_of_lt_of_le hp hB)
    · exact hb.cell hp.2.1)⟩
theorem Row1.nil (w : World) (B base : Nat) : Row1 w B base (.slice none 0 0) [] [] :=
  ⟨rfl, World.ownsRow_nil _ _ _ _, by simp, fun i hi => by simp at hi⟩
theorem Row1.push {w x3 x4 x5 : World} {B base gS cS : Nat} {sv : Value} {L : List Ty} {F : List (Array Value)} {t : Ty} {c : Array Value} (h : Row1 w B base sv L F) (hB : B ≤ base) (hbase : base ≤ w.heap.size)
    (hx3 : Below w.heap.size w x3) (hg2 : x3.grownBy x4 sv.ownBlock) (hx5 : ∀ b, (b < B ∨ base ≤ b) → x5.heap[b]? = x4.heap[b]?) (hz5 : x5.heap.size = x4.heap.size)
    (hS : x4.ownsRow base 53 7 (.slice (some ⟨gS, 0, none⟩) (L.length + 1) cS) (L.length + 1) (F.flatMap (·.toList) ++ c.toList)) (hSat : sv.ownBlock = some gS ∨ w.heap.size ≤ gS)
    (hc : c.size = 7) (ht : TyM w (InM w B base (.slice none 0 0) sv) t c) :
    Row1 x5 B base (.slice (some ⟨gS, 0, none⟩) (L.length + 1) cS) (L ++ [t]) (F ++ [c]) := by
  have s3 := hx3.size
  have s4 := hg2.size
  have hgS := owns_lt hS (show (Value.slice (some ⟨gS, 0, none⟩) (L.length + 1) cS).ownBlock = some gS from rfl)
  have hfar : ∀ b, b < w.heap.size → sv.ownBlock ≠ some b → (b < B ∨ base ≤ b) → x5.heap[b]? = w.heap[b]? := by
    intro b hb h2 h3
    rw [hx5 b h3, hg2.block b (by omega) (fun e => h2 e.symm), hx3.block b (by omega)]
  have hcell : ∀ p : Addr, p.block < w.heap.size → sv.ownBlock ≠ some p.block → (p.block < B ∨ base ≤ p.block) → x5.cell? p = w.cell? p :=
    fun p h0 h2 h3 => World.cell?_of_block (w := w) (hfar p.block h0 h2 h3)
  have hmove : ∀ {t c}, TyM w (InM w B base (.slice none 0 0) sv) t c → TyM x5 (InM x5 B base (.slice none 0 0) (.slice (some ⟨gS, 0, none⟩) (L.length + 1) cS)) t c := by
    intro t c ht
    refine ht.move (fun b hM => ?_) (fun p hM => ?_)
    · rcases hM with hM | ⟨m1, m2, m3, m4⟩
      · exact .inl hM
      · refine .inr ⟨m1, by omega, m3, ?_⟩
        rintro e
        simp [Value.ownBlock] at e
        subst e
        rcases hSat with hSat | hSat
        · exact m4 hSat
        · omega
    · rcases hM with hM | ⟨m1, m2, m3, m4⟩
      · exact hcell p (by omega) (fun e => by have := (owns_lt h.row e).1; omega) (.inl hM)
      · exact hcell p m2 m4 (.inr m1)
  refine ⟨by simp [h.len], ?_, ?_, ?_⟩
  · have e : (L ++ [t]).length = L.length + 1 := by simp
    rw [e, List.flatMap_append]
    have e2 : ([c] : List (Array Value)).flatMap (·.toList) = c.toList := by simp
    rw [e2]
    refine owns_keep hS fun g hg => ?_
    simp [Value.ownBlock] at hg
    subst hg
    exact hx5 _ (.inr hgS.1)
  · intro x hx
    rcases List.mem_append.1 hx with hx | hx
    · exact h.seven x hx
    · simp at hx; subst hx; exact hc
  · intro i hi hi'
    by_cases hil : i < L.length
    · have hif : i < F.length := by rw [h.len]; exact hil
      rw [List.getElem_append_left hil, List.getElem_append_left hif]
      exact hmove (h.each i hil hif)
    · have e : i = L.length := by simp at hi; omega
      subst e
      have e1 : (L ++ [t])[L.length] = t := by simp
      have e2 : (F ++ [c])[L.length] = c := by
        rw [List.getElem_append_right (by rw [h.len]; omega)]
        simp [h.len]
      rw [e1, e2]
      exact hmove ht
theorem boxes2 (w : World) (c0 c1 : Array Value) (T : TypeId) : Blk ((w.alloc (.cells c0 T)).alloc (.cells c1 T)) w.heap.size c0 T ∧ Blk ((w.alloc (.cells c0 T)).alloc (.cells c1 T)) (w.heap.size + 1) c1 T ∧
    ((w.alloc (.cells c0 T)).alloc (.cells c1 T)).heap.size = w.heap.size + 2 ∧ Below w.heap.size w ((w.alloc (.cells c0 T)).alloc (.cells c1 T)) := by
  have e1 : (w.alloc (.cells c0 T)).heap.size = w.heap.size + 1 := by simp
  have b1 := Blk.new (w.alloc (.cells c0 T)) c1 T
  rw [e1] at b1
  exact ⟨(Blk.new w c0 T).alloc _, b1, by simp, ((Below.refl _ _).alloc (Nat.le_refl _) _).alloc (by simp) _⟩
theorem strs_cells {w : World} {B : Nat} {a : Addr} {l : List ByteArray} (h : StrsAt w B (some a) l) : ∀ j u, (l.map Value.string)[j]? = some u → w.cell? (a.add j) = some u := by
  intro j u hu
  rcases h with rfl | ⟨b, o, hA, -, hc⟩
  · simp at hu
  · cases hA
    have hj : j < l.length := by have := (List.getElem?_eq_some_iff.1 hu).1; simpa using this
    rw [addN, hc j hj, ← hu]
    simp [hj]
def Few1 (t : Ty) : Prop := ∃ q : Int, 0 ≤ q ∧ q ≤ 3000 ∧ 0 ≤ fewT t q
theorem few1_of {t : Ty} (h : FewB t = true) : Few1 t := ⟨3000, by omega, by omega, by simpa [FewB] using h⟩
theorem few1_names {t : Ty} (h : Few1 t) : t.names.length ≤ 200 := by
  obtain ⟨q, h0, h1, h2⟩ := h
  rw [fewT_eq] at h2
  split at h2
  · omega
  · omega
theorem fewL_mem : ∀ (l : List Ty) (n : Int), 0 ≤ n → 0 ≤ fewL l n → ∀ s ∈ l, ∃ q : Int, 0 ≤ q ∧ q ≤ n ∧ 0 ≤ fewT s q
  | [], _, _, _, s, hs => by cases hs
  | x :: l, n, hn, h, s, hs => by
    rw [fewL, if_neg (by omega)] at h
    have hb := few_bound x n hn
    have hx : 0 ≤ fewT x n := by
      rcases Int.lt_or_le (fewT x n) 0 with hlt | hle
      · exfalso
        cases l with
        | nil => rw [fewL] at h; omega
        | cons y l => rw [fewL, if_pos hlt] at h; omega
      · exact hle
    rcases List.mem_cons.1 hs with rfl | hs
    · exact ⟨n, hn, Int.le_refl _, hx⟩
    · obtain ⟨q, h1, h2, h3⟩ := fewL_mem l _ hx h s hs
      exact ⟨q, h1, by omega, h3⟩
theorem few1_child {t s : Ty} (h : Few1 t) (hs : s ∈ t.subs) : Few1 s := by
  obtain ⟨q, h0, h1, h2⟩ := h
  rw [fewT_eq] at h2
  split at h2
  · omega
  · obtain ⟨q', a1, a2, a3⟩ := fewL_mem t.subs (q - 1) (by omega) h2 s hs
    exact ⟨q', a1, by omega, a3⟩
theorem manyL_len : ∀ l : List Ty, (l.length : Int) ≤ manyL l
  | [] => by rw [manyL]; exact Int.le_refl 0
  | t :: l => by have := many_pos t; have := manyL_len l; rw [manyL, List.length_cons]; omega
theorem few1_subs {t : Ty} (h : Few1 t) : t.subs.length ≤ 3000 := by
  obtain ⟨q, h0, h1, h2⟩ := h
  have h3 := few_is t q h0 h2
  have h4 := manyL_len t.subs
  rw [manyT_eq] at h3
  omega
structure CpRel (w wr : World) (t : Ty) (A1 : Option Addr) (c1 : Nat) (sv : Value) (F : List (Array Value)) (k : Nat) : Prop where
  below : Below w.heap.size w wr
  size : w.heap.size + 2 ≤ wr.heap.size
  box : Blk wr w.heap.size #[.int .i64 t.kind, .string t.pkg, .int .i64 t.major, .string t.mod, .string t.name, .slice A1 t.names.length c1, sv] 53
  zero : Blk wr (w.heap.size + 1) #[.int .i64 0, .string { data := #[] }, .int .i64 0, .string { data := #[] }, .string { data := #[] }, .slice none 0 0, .slice none 0 0] 53
  cap1 : t.names.length ≤ c1
  names : StrsM wr (InM wr 0 (w.heap.size + 2) (.slice none 0 0) sv) A1 t.names
  rows : Row1 wr 0 (w.heap.size + 2) sv (t.subs.take k) F
theorem CpRel.next {w wr w2 x3 x4 : World} {t : Ty} {A1 : Option Addr} {c1 k gS cS : Nat} {sv : Value} {F : List (Array Value)} {c : Array Value} (h : CpRel w wr t A1 c1 sv F k) (hk : k < t.subs.length) (hb : Below wr.heap.size wr w2) (ht : TyM w2 (Fresh wr w2) t.subs[k] c)
    (hx3 : Below w2.heap.size w2 x3) (hg2 : x3.grownBy x4 sv.ownBlock) (hS : x4.ownsRow (w.heap.size + 2) 53 7 (.slice (some ⟨gS, 0, none⟩) (k + 1) cS) (k + 1) (F.flatMap (·.toList) ++ c.toList)) (hSat : sv.ownBlock = some gS ∨ w2.heap.size ≤ gS) :
    CpRel w (x4.setCell ⟨w.heap.size, 6, none⟩ (.slice (some ⟨gS, 0, none⟩) (k + 1) cS)) t A1 c1 (.slice (some ⟨gS, 0, none⟩) (k + 1) cS) (F ++ [c]) (k + 1) := by
  have s0 := h.size
  have s1 := hb.size
  have s3 := hx3.size
  have s4 := hg2.size
  have hlen : (t.subs.take k).length = k := by rw [List.length_take]; omega
  have hrw := h.rows.under hb (Nat.zero_le _)
  have hown2 : ∀ g, sv.ownBlock = some g → w.heap.size + 2 ≤ g ∧ g < wr.heap.size := fun g hg => owns_lt h.rows.row hg
  have hgS := owns_lt hS (show (Value.slice (some ⟨gS, 0, none⟩) (k + 1) cS).ownBlock = some gS from rfl)
  have key : ∀ bb, bb < wr.heap.size → sv.ownBlock ≠ some bb → x4.heap[bb]? = wr.heap[bb]? := by
    intro bb hbb hn
    rw [hg2.block bb (by omega) (fun e => hn e.symm), hx3.block bb (by omega), hb.block bb hbb]
  have hnb : sv.ownBlock ≠ some w.heap.size := fun e => by have := hown2 _ e; omega
  have hnz : sv.ownBlock ≠ some (w.heap.size + 1) := fun e => by have := hown2 _ e; omega
  have hB4 : Below w.heap.size w x4 := by
    refine ⟨?_, ?_, ?_, by omega, fun bb hbb => (key bb (by omega) (fun e => by have := hown2 _ e; omega)).trans (h.below.block bb hbb)⟩
    · rw [hg2.os, hx3.os, hb.os, h.below.os]
    · rw [hg2.tape, hx3.tape, hb.tape, h.below.tape]
    · rw [hg2.output, hx3.output, hb.output, h.below.output]
  have hsz : (x4.setCell ⟨w.heap.size, 6, none⟩ (.slice (some ⟨gS, 0, none⟩) (k + 1) cS)).heap.size = x4.heap.size := by simp [World.setCell]
  have hfar : ∀ bb, bb ≠ w.heap.size → (x4.setCell ⟨w.heap.size, 6, none⟩ (.slice (some ⟨gS, 0, none⟩) (k + 1) cS)).heap[bb]? = x4.heap[bb]? := fun bb hbb => Below.heap_setCell _ _ _ _ hbb
  refine ⟨hB4.setCell (p := ⟨w.heap.size, 6, none⟩) (Nat.le_refl _) _, by rw [hsz]; omega, (show Blk x4 _ _ _ from (key _ (by omega) hnb).trans h.box).set 6 _, (show Blk x4 _ _ _ from (key _ (by omega) hnz).trans h.zero).far _ _ (by simp), h.cap1, ?_, ?_⟩
  · refine h.names.move (fun b hM => ?_) (fun p hM => ?_)
    · rcases hM with hM | ⟨m1, m2, m3, m4⟩
      · exact .inl hM
      · refine .inr ⟨m1, by rw [hsz]; omega, m3, fun e => ?_⟩
        simp [Value.ownBlock] at e
        subst e
        rcases hSat with hSat | hSat
        · exact m4 hSat
        · omega
    · rcases hM with hM | ⟨m1, m2, m3, m4⟩
      · omega
      · exact World.cell?_of_block (w := wr) ((hfar _ (by omega)).trans (key _ m2 m4))
  · have e1 : t.subs.take (k + 1) = t.subs.take k ++ [t.subs[k]] := List.take_succ_eq_append_getElem hk
    rw [e1]
    have hp := hrw.push (x5 := x4.setCell ⟨w.heap.size, 6, none⟩ (.slice (some ⟨gS, 0, none⟩) (k + 1) cS)) (gS := gS) (cS := cS) (t := t.subs[k]) (c := c) (Nat.zero_le _) (by omega) hx3 hg2 (fun bb hbb => hfar bb (by omega)) hsz (by rw [hlen]; exact hS) hSat ht.size (ht.mono fun b hM => .inr ⟨by have := hM.1; omega, hM.2, fun e => by simp [Value.ownBlock] at e, fun e => by have := hown2 _ e; have := hM.1; omega⟩)
    rw [hlen] at hp
    exact hp
theorem CpRel.last {w wr : World} {t : Ty} {A1 : Option Addr} {c1 : Nat} {sv : Value} {F : List (Array Value)} (h : CpRel w wr t A1 c1 sv F t.subs.length) (hf : Fits t) (v0 v1 v2 v3 v4 v5 v6 : Value) :
    ∃ sa sc, sv = .slice sa t.subs.length sc ∧ TyM (put7 wr (w.heap.size + 1) 0 v0 v1 v2 v3 v4 v5 v6) (Fresh w (put7 wr (w.heap.size + 1) 0 v0 v1 v2 v3 v4 v5 v6)) t (tyCells t A1 c1 sa sc) ∧ Below w.heap.size w (put7 wr (w.heap.size + 1) 0 v0 v1 v2 v3 v4 v5 v6) := by
  have hrw := h.rows
  rw [List.take_length] at hrw
  have hs : ∃ sa sc, sv = .slice sa t.subs.length sc ∧ t.subs.length ≤ sc ∧ RowsM wr (fun b => w.heap.size + 2 ≤ b ∧ b < wr.heap.size) sa t.subs.length (fun i => F.getD i #[]) := by
    have h1 := hrw.row
    obtain ⟨hl, ⟨hv, h0⟩ | ⟨g, cap, cur, hv, hg, hh, hn, -⟩⟩ := hrw.row
    · exact ⟨none, 0, by rw [hv, h0], by omega, .inl h0⟩
    · subst hv
      refine ⟨_, _, rfl, hn, .inr ⟨g, 0, rfl, ⟨hg, (Array.getElem?_eq_some_iff.1 hh).1⟩, fun i hi j hj => ?_⟩⟩
      have hif : i < F.length := by rw [hrw.len]; exact hi
      have hF : F.getD i #[] = F[i] := by simp [List.getD, hif]
      dsimp only at hj ⊢
      rw [hF] at hj ⊢
      have h7 := hrw.seven F[i] (List.getElem_mem hif)
      rw [Nat.zero_add, owns_cell h1 (by omega)]
      exact flat_at F hrw.seven i hif j (by omega)
  obtain ⟨sa, sc, rfl, hsc, hsm⟩ := hs
  have hM : ∀ b, InM wr 0 (w.heap.size + 2) (.slice none 0 0) (.slice sa t.subs.length sc) b → w.heap.size + 2 ≤ b ∧ b < wr.heap.size := fun b hb => by
    rcases hb with hb | hb
    · omega
    · exact ⟨hb.1, hb.2.1⟩
  have hty : TyM wr (fun b => w.heap.size + 2 ≤ b ∧ b < wr.heap.size) t (tyCells t A1 c1 sa sc) := by
    refine TyM.mk t A1 c1 sa sc (fun i => F.getD i #[]) hf (h.names.move hM fun _ _ => rfl) hsm h.cap1 hsc fun i hi => ?_
    have hif : i < F.length := by rw [hrw.len]; exact hi
    have hF : F.getD i #[] = F[i] := by simp [List.getD, hif]
    rw [hF]
    exact (hrw.each i hi hif).mono hM
  refine ⟨sa, sc, rfl, hty.move (fun b hb => ⟨by omega, by rw [put7_size]; exact hb.2⟩) (fun p hp => put7_cell _ _ _ _ _ _ _ (by omega)), put7_below _ _ _ _ _ _ _ h.below (by omega)⟩
theorem cp_start {w W w1 : World} {t : Ty} {na sa : Option Addr} {nc sc n : Nat} {v : Value} (x0 : Blk W w.heap.size #[.int .i64 t.kind, .string t.pkg, .int .i64 t.major, .string t.mod, .string t.name, .slice na t.names.length nc, .slice sa t.subs.length sc] 53) (x1 : Blk W (w.heap.size + 1) #[.int .i64 0, .string { data := #[] }, .int .i64 0, .string { data := #[] }, .string { data := #[] }, .slice none 0 0, .slice none 0 0] 53) (xs : W.heap.size = w.heap.size + 2) (xb : Below w.heap.size w W)
    (hb : Below W.heap.size W w1) (hown : w1.ownsRow W.heap.size 9 1 v n (t.names.map Value.string)) (hn : n = t.names.length) :
    ∃ A1 c1, v = .slice A1 t.names.length c1 ∧ CpRel w ((w1.setCell ⟨w.heap.size, 5, none⟩ (.slice A1 t.names.length c1)).setCell ⟨w.heap.size, 6, none⟩ (.slice none 0 0)) t A1 c1 (.slice none 0 0) [] 0 := by
  subst hn
  have s1 := hb.size
  have hw1 : Below w.heap.size w w1 := xb.trans (hb.mono (by omega))
  have hbx := ((x0.under hb (by omega)).set 5 v).set 6 (.slice none 0 0)
  have hz := ((x1.under hb (by omega)).far ⟨w.heap.size, 5, none⟩ v (by simp)).far ⟨w.heap.size, 6, none⟩ (.slice none 0 0) (by simp)
  have hsz : ((w1.setCell ⟨w.heap.size, 5, none⟩ v).setCell ⟨w.heap.size, 6, none⟩ (.slice none 0 0)).heap.size = w1.heap.size := by simp [World.setCell]
  have hbel := (hw1.setCell (p := ⟨w.heap.size, 5, none⟩) (Nat.le_refl _) v).setCell (p := ⟨w.heap.size, 6, none⟩) (Nat.le_refl _) (.slice none 0 0)
  have mk : ∀ A1 c1, v = .slice A1 t.names.length c1 → t.names.length ≤ c1 → StrsM w1 (fun b => W.heap.size ≤ b ∧ b < w1.heap.size) A1 t.names → CpRel w ((w1.setCell ⟨w.heap.size, 5, none⟩ (.slice A1 t.names.length c1)).setCell ⟨w.heap.size, 6, none⟩ (.slice none 0 0)) t A1 c1 (.slice none 0 0) [] 0 := by
    intro A1 c1 hv hc hstr
    subst hv
    refine ⟨hbel, by rw [hsz]; omega, hbx, hz, hc, hstr.move (fun b hb => .inr ⟨by omega, by rw [hsz]; exact hb.2, fun e => by simp [Value.ownBlock] at e, fun e => by simp [Value.ownBlock] at e⟩) (fun p hp => ?_), Row1.nil _ _ _⟩
    rw [World.cell?_setCell_other _ _ _ _ (fun e => by have := hp.1; rw [← e] at this; simp at this; omega), World.cell?_setCell_other _ _ _ _ (fun e => by have := hp.1; rw [← e] at this; simp at this; omega)]
  have h1 := hown
  obtain ⟨-, ⟨hv, h0⟩ | ⟨g, cap, cur, hv, hg, hh, hn, -⟩⟩ := hown
  · have hl : t.names = [] := List.eq_nil_of_length_eq_zero h0
    have hv' : v = .slice none t.names.length 0 := by rw [hv, h0]
    exact ⟨none, 0, hv', mk _ _ hv' (by omega) (.inl hl)⟩
  · refine ⟨_, cap, hv, mk _ _ hv hn ?_⟩
    by_cases h0 : t.names = []
    · exact .inl h0
    · refine .inr ⟨g, 0, rfl, ⟨hg, (Array.getElem?_eq_some_iff.1 hh).1⟩, fun i hi => ?_⟩
      subst hv
      rw [owns_cell h1 (by omega), Nat.zero_add]
      simp [hi]
set_option maxRecDepth 100000 in
set_option maxHeartbeats 8000000 in
theorem copy_c (t : Ty) : ∀ (cs : Array Value) (B : Nat) (w : World), TyC w B t cs → B ≤ w.heap.size → Few1 t →
    Calls Tryz.prog 21 #[.agg cs] w fun e w' => (∃ cs', e = .returned (.agg cs') ∧ TyM w' (Fresh w w') t cs') ∧ Below w.heap.size w w' := by
  induction t using Ty.ind with
  | h t ih =>
    intro cs B w ht hB hm
    have HI := Lib.hid ih
    obtain ⟨na, nc, sa, sc, f, rfl, hft, hn, hs, -, -, hsub⟩ := ht.inv
    have hnl := few1_names hm
    have hsl := few1_subs hm
    have HN := Lib.hid hn
    have HS := Lib.hid hs
    have HU := Lib.hid hsub
    have MA := Lib.hid hm
    have HF := Lib.hid hft
    clear ht hn hs hsub hm ih hft
    obtain ⟨i0, hi, hz0, hz1, hz2⟩ := info_parts info_str
    obtain ⟨iS, hiS, hzS0, hzS1, hzS2⟩ := info_parts info_type
    go_enter Tryz.func21, Tryz.ntmps21
    simp only [tyCells]
    go_upto_region 1 with fail
    have h2 := boxes2 w #[.int .i64 t.kind, .string t.pkg, .int .i64 t.major, .string t.mod, .string t.name, .slice na t.names.length nc, .slice sa t.subs.length sc] #[.int .i64 0, .string { data := #[] }, .int .i64 0, .string { data := #[] }, .string { data := #[] }, .slice none 0 0, .slice none 0 0] 53
    generalize ((w.alloc (.cells #[.int .i64 t.kind, .string t.pkg, .int .i64 t.major, .string t.mod, .string t.name, .slice na t.names.length nc, .slice sa t.subs.length sc] 53)).alloc (.cells #[.int .i64 0, .string { data := #[] }, .int .i64 0, .string { data := #[] }, .string { data := #[] }, .slice none 0 0, .slice none 0 0] 53)) = W at h2 ⊢
    obtain ⟨x0, x1, xs, xb⟩ := h2
    have X0 := Lib.hid x0
    have X1 := Lib.hid x1
    have XS := Lib.hid xs
    have XB := Lib.hid xb
    have e0 := x0.cell 0
    have f0 := x0.free 0
    have e1 := x0.cell 1
    have f1 := x0.free 1
    have e2 := x0.cell 2
    have f2 := x0.free 2
    have e3 := x0.cell 3
    have f3 := x0.free 3
    have e4 := x0.cell 4
    have f4 := x0.free 4
    have e5 := x0.cell 5
    have f5 := x0.free 5
    have e6 := x0.cell 6
    have f6 := x0.free 6
    simp at e0 e1 e2 e3 e4 e5 e6
    have hlx := x0.lt
    clear x0 x1 xs xb
    go_cut [] (fun wx => ∃ (w1 : World) (A1 : Option Addr) (c1 : Nat), Below W.heap.size W w1 ∧ w1.ownsRow W.heap.size 9 1 (.slice A1 t.names.length c1) t.names.length (t.names.map Value.string) ∧ wx = w1.setCell ⟨w.heap.size, 5, none⟩ (.slice A1 t.names.length c1))
    case first =>
      cases na with
      | none =>
        have hnil : t.names = [] := by
          rcases HN.out with h | ⟨b, o, h, -⟩
          · exact h
          · cases h
        have hl0 : t.names.length = 0 := by rw [hnil]; rfl
        have HNL := Lib.hid hnil
        have HL0 := Lib.hid hl0
        rw [hl0] at e5
        clear hnil hl0
        go_wp2_with fail
        go_meet
        have hown := World.ownsRow_made (base := W.heap.size) (size := 1) (e := 9) W #[] 0 (Nat.le_refl _) (Nat.zero_le _) rfl
        refine ⟨W.alloc (.cells #[] 9), some ⟨W.heap.size, 0, none⟩, 0, (Below.refl _ _).alloc (Nat.le_refl _) _, ?_, ?_⟩
        · rw [HNL.out]; exact hown
        · rw [HL0.out]
          exact (World.setCell_alloc_past _ w.heap.size 5 _ hlx).symm
      | some a =>
        have hS := strs_cells HN.out
        have hB1 : ∀ j u, (t.names.map Value.string)[j]? = some u → (W.alloc (.cells #[] 9)).cell? (a.add j) = some u := fun j u hj => by
          refine Lib.cell?_alloc_some _ ?_
          rw [← hS j u hj]
          rcases HN.out with h | ⟨b, o, h, hbB, -⟩
          · rw [h] at hj; simp at hj
          · cases h
            rw [addN]
            exact XB.out.cell (Nat.lt_of_lt_of_le hbB hB)
        have HSC := Lib.hid hB1
        have hwl : t.names.length ≤ 1000 := by omega
        clear hS hB1
        go_wp2_with (at_builtin; refine wpList_append_own _ rfl _ _ 50 rfl W.heap.size 9 i0 (.string { data := #[] }) 1 16 Tryz.underlying50 hi hz0 hz1 hz2 rfl (by decide) _ _ _ rfl (World.ownsRow_made W #[] 0 (Nat.le_refl _) (Nat.zero_le _) rfl) a t.names.length nc (t.names.map Value.string) rfl ?qc1 ?qc2 ?qc3 ?qc4 ?qc5 ?qc6 ?_)
        case qc1 => simp
        case qc2 => exact fun j u hj => HSC.out j u hj
        case qc3 =>
          intro u hu
          obtain ⟨x, -, rfl⟩ := List.mem_map.1 hu
          rfl
        case qc4 => unfold maxLen; omega
        case qc5 => omega
        case qc6 => simp
        intro v' w1 hown hgrow hnil
        have hb : Below W.heap.size W w1 := ((Below.refl _ W).alloc (Nat.le_refl _) _).grown hgrow (by simp) (by intro k hk; simp [Value.ownBlock] at hk; omega)
        have hown' : w1.ownsRow W.heap.size 9 1 v' t.names.length (t.names.map Value.string) := by simpa using hown
        have hfm : ∃ A1 c1, v' = .slice A1 t.names.length c1 := by
          obtain ⟨-, ⟨rfl, h0⟩ | ⟨g, cap, cur, rfl, -⟩⟩ := hown'
          · exact ⟨none, 0, by rw [h0]⟩
          · exact ⟨_, _, rfl⟩
        obtain ⟨A1, c1, rfl⟩ := hfm
        have hbx := X0.out.under hb X0.out.lt
        have g5 := hbx.cell 5
        have h5 := hbx.free 5
        simp at g5
        have HOW := Lib.hid hown'
        have HBB := Lib.hid hb
        clear hown hgrow hnil hown' hb hbx e0 e1 e2 e3 e4 e5 e6
        go_wp2_with fail
        go_meet
        exact ⟨w1, A1, c1, HBB.out, HOW.out, rfl⟩
    case rest =>
      obtain ⟨w1, A1, c1, hb1, hown, rfl⟩ := hcut
      obtain ⟨A2, c2, hv, hst⟩ := cp_start X0.out X1.out XS.out XB.out hb1 hown rfl
      cases hv
      have hbx := (X0.out.under hb1 X0.out.lt).set 5 (.slice A1 t.names.length c1)
      clear hb1 hown e0 e1 e2 e3 e4 e5 e6 f0 f1 f2 f3 f4 f5 f6
      generalize (w1.setCell ⟨w.heap.size, 5, none⟩ (.slice A1 t.names.length c1)) = Wx at hst hbx ⊢
      have e6 := hbx.cell 6
      have f6 := hbx.free 6
      simp at e6
      have HST := Lib.hid hst
      clear hbx hst hlx
      go_wp2_with fail
      go_loopw [4] (fun i wr => ∃ (k : Nat) (sv : Value) (F : List (Array Value)), k ≤ t.subs.length ∧ i = .int .i64 k ∧ CpRel w wr t A1 c1 sv F k) (fun i _ => t.subs.length - (intOf i).toNat)
      case atStart => exact ⟨0, _, _, Nat.zero_le _, rfl, HST.out⟩
      case round =>
        clear HST e6 f6
        obtain ⟨k, sv, F, hk, rfl, hr⟩ := hrel
        have HR := Lib.hid hr
        have hacc := hr.below
        have hsz := hr.size
        by_cases hlt : k < t.subs.length
        case neg =>
          have hke : k = t.subs.length := by omega
          subst hke
          obtain ⟨sa9, sc9, rfl, -, -⟩ := hr.last HF.out (.int .i64 0) (.int .i64 0) (.int .i64 0) (.int .i64 0) (.int .i64 0) (.int .i64 0) (.int .i64 0)
          have o0 := hr.box.cell 0
          have z0 := hr.zero.cell 0
          have f0 := hr.zero.free 0
          have o1 := hr.box.cell 1
          have z1 := hr.zero.cell 1
          have f1 := hr.zero.free 1
          have o2 := hr.box.cell 2
          have z2 := hr.zero.cell 2
          have f2 := hr.zero.free 2
          have o3 := hr.box.cell 3
          have z3 := hr.zero.cell 3
          have f3 := hr.zero.free 3
          have o4 := hr.box.cell 4
          have z4 := hr.zero.cell 4
          have f4 := hr.zero.free 4
          have o5 := hr.box.cell 5
          have z5 := hr.zero.cell 5
          have f5 := hr.zero.free 5
          have o6 := hr.box.cell 6
          have z6 := hr.zero.cell 6
          have f6 := hr.zero.free 6
          simp at o0 z0 o1 z1 o2 z2 o3 z3 o4 z4 o5 z5 o6 z6
          have hkx : ¬ (t.subs.length : Int) < (t.subs.length : Int) := by omega
          clear hr
          go_wp2_with fail
          obtain ⟨sa8, sc8, hv8, hlast⟩ := HR.out.last HF.out (.int .i64 t.kind) (.string t.pkg) (.int .i64 t.major) (.string t.mod) (.string t.name) (.slice A1 t.names.length c1) (.slice sa9 t.subs.length sc9)
          cases hv8
          have hblk := put7_full (.int .i64 t.kind) (.string t.pkg) (.int .i64 t.major) (.string t.mod) (.string t.name) (.slice A1 t.names.length c1) (.slice sa9 t.subs.length sc9) HR.out.zero
          simp only [put7_zero] at hlast
          generalize (((((((wr.setCell ⟨w.heap.size + 1, 0, none⟩ (.int .i64 t.kind)).setCell ⟨w.heap.size + 1, 1, none⟩ (.string t.pkg)).setCell ⟨w.heap.size + 1, 2, none⟩ (.int .i64 t.major)).setCell ⟨w.heap.size + 1, 3, none⟩ (.string t.mod)).setCell ⟨w.heap.size + 1, 4, none⟩ (.string t.name)).setCell ⟨w.heap.size + 1, 5, none⟩ (.slice A1 t.names.length c1)).setCell ⟨w.heap.size + 1, 6, none⟩ (.slice sa9 t.subs.length sc9)) = Wz at hlast hblk ⊢
          have q0 := hblk.cell 0
          have q1 := hblk.cell 1
          have q2 := hblk.cell 2
          have q3 := hblk.cell 3
          have q4 := hblk.cell 4
          have q5 := hblk.cell 5
          have q6 := hblk.cell 6
          simp at q0 q1 q2 q3 q4 q5 q6
          refine bodyPost_ret (by simp [results, Tryz.results21, go_sem, q0, q1, q2, q3, q4, q5, q6]; try rfl) rfl ?_
          exact ⟨⟨_, rfl, hlast.1⟩, hlast.2⟩
        have hT1 := (HU.out k hlt).under (hacc.mono hB)
        obtain ⟨b2, o2, na2, nc2, sa2, sc2, rfl, hbb2, hfk2, d0, d1, d2, d3, d4, d5, d6⟩ := TyC.elem (HS.out.keep fun p hp => hacc.cell (p := p) (by omega)) hlt hT1
        rw [hfk2] at hT1
        have HT1 := Lib.hid hT1
        have HD := Lib.hid (And.intro d0 (And.intro d1 (And.intro d2 (And.intro d3 (And.intro d4 (And.intro d5 d6))))))
        have b6 := hr.box.cell 6
        have g6 := hr.box.free 6
        simp at b6
        have HB6 := Lib.hid b6
        have hltI : (k : Int) < (t.subs.length : Int) := by omega
        have hlxr := hr.box.lt
        have hlen : (t.subs.take k).length = k := by rw [List.length_take]; omega
        clear hr hT1 hfk2
        go_upto_region 7 with fail
        clear d0 d1 d2 d3 d4 d5 d6 b6 g6
        refine wp_region_until [(8, fun w' => w'.cell? ⟨w.heap.size, 6, none⟩ = some sv), (6, fun w' => w'.cell? ⟨b2, o2 + k * 7, none⟩ = some (.int .i64 t.subs[k].kind) ∧ w'.cell? ⟨b2, o2 + k * 7 + 1, none⟩ = some (.string t.subs[k].pkg) ∧ w'.cell? ⟨b2, o2 + k * 7 + 2, none⟩ = some (.int .i64 t.subs[k].major) ∧ w'.cell? ⟨b2, o2 + k * 7 + 3, none⟩ = some (.string t.subs[k].mod) ∧ w'.cell? ⟨b2, o2 + k * 7 + 4, none⟩ = some (.string t.subs[k].name) ∧ w'.cell? ⟨b2, o2 + k * 7 + 5, none⟩ = some (.slice na2 t.subs[k].names.length nc2) ∧ w'.cell? ⟨b2, o2 + k * 7 + 6, none⟩ = some (.slice sa2 t.subs[k].subs.length sc2))] (by kernel_rfl) (Until.cons (fun _ => HB6.out) (Until.cons (fun _ => HD.out) Until.nil)) (fun hU => ?_)
        refine AnyU.take (i := 0) (v := ?_) rfl (by kernel_rfl) (by kernel_rfl) (by kernel_rfl) (fun _ _ _ h => h) (by kernel_rfl) (by assumption) (by rfl) ?_ (fun hU => ?_)
        rotate_left 1
        · (intro wq; go_simp; try with_reducible rfl)
        simp only [Act.put, aput]
        refine AnyU.load (i := 1) (d := 8) (Si := fun w' => w'.cell? ⟨w.heap.size, 6, none⟩ = some sv) (v := ?_) rfl rfl (by kernel_rfl) (by kernel_rfl) (by kernel_rfl) (fun _ _ _ h => h) (by kernel_rfl) (by assumption) (by kernel_rfl) (by kernel_rfl) (by simp) (by rfl) ?_ (fun hU => ?_)
        rotate_left 1
        · (intro wq hq; go_simp; try with_reducible rfl)
        simp only [Act.put, aput]
        refine AnyU.take (i := 2) (v := ?_) rfl (by kernel_rfl) (by kernel_rfl) (by kernel_rfl) (fun _ _ _ h => h) (by kernel_rfl) (by assumption) (by rfl) ?_ (fun hU => ?_)
        rotate_left 1
        · (intro wq; go_simp; try with_reducible rfl)
        simp only [Act.put, aput]
        refine AnyU.take (i := 3) (v := ?_) rfl (by kernel_rfl) (by kernel_rfl) (by kernel_rfl) (fun _ _ _ h => h) (by kernel_rfl) (by assumption) (by rfl) ?_ (fun hU => ?_)
        rotate_left 1
        · (intro wq; go_simp; try with_reducible rfl)
        simp only [Act.put, aput]
        refine AnyU.take (i := 4) (v := ?_) rfl (by kernel_rfl) (by kernel_rfl) (by kernel_rfl) (fun _ _ _ h => h) (by kernel_rfl) (by assumption) (by rfl) ?_ (fun hU => ?_)
        rotate_left 1
        · (intro wq; go_simp; try with_reducible rfl)
        simp only [Act.put, aput]
        refine AnyU.load (i := 5) (d := 6) (Si := fun w' => w'.cell? ⟨b2, o2 + k * 7, none⟩ = some (.int .i64 t.subs[k].kind) ∧ w'.cell? ⟨b2, o2 + k * 7 + 1, none⟩ = some (.string t.subs[k].pkg) ∧ w'.cell? ⟨b2, o2 + k * 7 + 2, none⟩ = some (.int .i64 t.subs[k].major) ∧ w'.cell? ⟨b2, o2 + k * 7 + 3, none⟩ = some (.string t.subs[k].mod) ∧ w'.cell? ⟨b2, o2 + k * 7 + 4, none⟩ = some (.string t.subs[k].name) ∧ w'.cell? ⟨b2, o2 + k * 7 + 5, none⟩ = some (.slice na2 t.subs[k].names.length nc2) ∧ w'.cell? ⟨b2, o2 + k * 7 + 6, none⟩ = some (.slice sa2 t.subs[k].subs.length sc2)) (v := ?_) rfl rfl (by kernel_rfl) (by kernel_rfl) (by kernel_rfl) (fun _ _ _ h => h) (by kernel_rfl) (by assumption) (by kernel_rfl) (by kernel_rfl) (by simp) (by rfl) ?_ (fun hU => ?_)
        rotate_left 1
        · (intro wq hq; obtain ⟨u0, u1, u2, u3, u4, u5, u6⟩ := hq; go_simp; try with_reducible rfl)
        simp only [Act.put, aput]
        refine AnyU.ready1 (i := 6) (by kernel_rfl) (AnyU.one rfl fun K hK => ?_)
        go_simp
        go_at_call 21
        refine (HI.out _ (List.getElem_mem hlt) _ B wr.drew (HT1.out.keep fun _ _ => rfl) (Nat.le_trans hB hacc.size) (few1_child MA.out (List.getElem_mem hlt))).mono ?_
        rintro e w2 ⟨⟨cr, rfl, htm⟩, hb2⟩
        have hbw : Below wr.heap.size wr w2 := (Below.refl _ _).drew.trans hb2
        have htw : TyM w2 (Fresh wr w2) t.subs[k] cr := htm
        clear htm hb2
        obtain ⟨na3, nc3, sa3, sc3, f3, rfl, -⟩ := htw.inv
        have HBW := Lib.hid hbw
        have HTW := Lib.hid htw
        have hsw := hbw.size
        have hbx2 := HR.out.box.under hbw HR.out.box.lt
        have HBX2 := Lib.hid hbx2
        have hrw2 := HR.out.rows.under hbw (Nat.zero_le _)
        have HRW2 := Lib.hid hrw2
        clear hbw htw hbx2 hrw2
        refine hK.out _ _ (Until.cons (fun _ => HBX2.out.cell 6) (Until.cons (fun h => absurd h (by decide)) Until.nil)) (fun hU => ?_)
        clear hK K
        try simp only [Act.put, aput]
        refine AnyU.ready1 (i := 7) (by kernel_rfl) (AnyU.one rfl fun K hK => ?_)
        simp only [tyCells]
        go_simp
        obtain ⟨hX3, hbS3, hszX3⟩ := laid0 w2 #[.int .i64 t.subs[k].kind, .string t.subs[k].pkg, .int .i64 t.subs[k].major, .string t.subs[k].mod, .string t.subs[k].name, .slice na3 t.subs[k].names.length nc3, .slice sa3 t.subs[k].subs.length sc3] 53
        generalize (w2.alloc (.cells #[.int .i64 t.subs[k].kind, .string t.subs[k].pkg, .int .i64 t.subs[k].major, .string t.subs[k].mod, .string t.subs[k].name, .slice na3 t.subs[k].names.length nc3, .slice sa3 t.subs[k].subs.length sc3] 53)) = X3 at hX3 hbS3 hszX3 ⊢
        refine hK.out _ _ (Until.cons (fun _ => (HBX2.out.under hX3 HBX2.out.lt).cell 6) (Until.cons (fun h => absurd h (by decide)) Until.nil)) (fun hU => ?_)
        clear hK K
        try simp only [Act.put, aput]
        refine AnyU.ready1 (i := 8) (by kernel_rfl) (AnyU.one rfl fun K hK => ?_)
        have hone7 : ∀ u ∈ (#[.int .i64 t.subs[k].kind, .string t.subs[k].pkg, .int .i64 t.subs[k].major, .string t.subs[k].mod, .string t.subs[k].name, .slice na3 t.subs[k].names.length nc3, .slice sa3 t.subs[k].subs.length sc3] : Array Value).toList, u.oneCell' = true := by simp [Value.oneCell']
        refine step_append_lies X3 (by rfl) _ _ _ (by rfl) (w.heap.size + 2) 53 iS _ 7 112 Tryz.underlying51 hiS hzS0 hzS1 hzS2 rfl (by decide) sv k (F.flatMap (·.toList)) (by rfl) (owns_under (by have h := HRW2.out.row; rw [hlen] at h; exact h) hX3) ⟨w2.heap.size, 0, none⟩ 1 1 (#[.int .i64 t.subs[k].kind, .string t.subs[k].pkg, .int .i64 t.subs[k].major, .string t.subs[k].mod, .string t.subs[k].name, .slice na3 t.subs[k].names.length nc3, .slice sa3 t.subs[k].subs.length sc3] : Array Value).toList (by rfl) (by rfl) (World.news_of_block (cs := #[.int .i64 t.subs[k].kind, .string t.subs[k].pkg, .int .i64 t.subs[k].major, .string t.subs[k].mod, .string t.subs[k].name, .slice na3 t.subs[k].names.length nc3, .slice sa3 t.subs[k].subs.length sc3]) (t := 53) (fr := (0, 0)) hbS3) hone7 (by decide) (by unfold maxLen; omega) (by omega) (by have := hX3.size; omega) _ rfl ?_
        intro gS cS x4 hownS hgS hatS hltS
        have hsb : sv.ownBlock ≠ some w.heap.size := fun e => by have := owns_lt HRW2.out.row e; omega
        have hb4 := grown_box hgS (HBX2.out.under hX3 HBX2.out.lt) hsb
        have r6 := hb4.cell 6
        have rf6 := hb4.free 6
        simp at r6
        refine hK.out _ _ (Until.offT (by kernel_rfl)) (fun hU => ?_)
        clear hK K
        try simp only [Act.put, aput]
        refine AnyU.take (i := 9) (v := ?_) rfl (by kernel_rfl) (by kernel_rfl) (by kernel_rfl) (fun _ _ _ h => h) (by kernel_rfl) (by assumption) (by rfl) ?_ (fun hU => ?_)
        rotate_left 1
        · (intro wq; go_simp; try with_reducible rfl)
        simp only [Act.put, aput]
        refine AnyU.ready1 (i := 10) (by kernel_rfl) (AnyU.one rfl fun K hK => ?_)
        go_simp
        refine hK.out _ _ (Until.offT (by kernel_rfl)) (fun hU => ?_)
        clear hK K
        try simp only [Act.put, aput]
        refine AnyU.done (by kernel_rfl) ?_
        have hnx := HR.out.next hlt HBW.out HTW.out hX3 hgS hownS (hatS.imp id fun e => by rw [e]; exact hX3.size)
        have HNX := Lib.hid hnx
        generalize (x4.setCell ⟨w.heap.size, 6, none⟩ (.slice (some ⟨gS, 0, none⟩) (k + 1) cS)) = Wz at HNX ⊢
        clear hU hnx r6 rf6 hb4 hownS hgS hatS hltS hX3 hbS3 hszX3 hsb hone7
        go_wp2
        first
          | exact ⟨⟨k + 1, _, _, by omega, by go_num, HNX.out⟩, by simp [intOf]; omega⟩
          | (go_roundw
             case rel => exact ⟨k + 1, _, _, by omega, by go_num, HNX.out⟩
             case measure => simp [intOf]; omega)
end Go.Proofs.YtjeldfipipkfiaaGreat
