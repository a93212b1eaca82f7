/- The contract of merlonref04.Copy: the same tree in memory of the call's own; the premise: few types. (CpA and CpD over Out2.) -/
import Derived.Test.YtjeldfipipkfiaaGreatDoorGMent
import Derived.Test.YtjeldfipipkfiaaGreatDoorGReg
import Derived.Test.YtjeldfipipkfiaaGreatDoorGRefK
import Derived.Deep.RegionHeld3
import Derived.Deep.Cut
import Derived.Deep.DeepCutAuto
namespace Go.Proofs.YtjeldfipipkfiaaGreatDoor
open Go.RowKit
set_option linter.unusedSimpArgs false
set_option linter.unusedVariables false
theorem grown_box {X w1 : World} {bx : Nat} {row : Option Nat} {C : Array Value} {T : TypeId} (hg : X.grownBy w1 row) (hbx : Blk X bx C T) (h1 : row ≠ some bx) : Blk w1 bx C T := (hg.block bx hbx.lt (fun e => h1 e.symm)).trans hbx
theorem laid0 (w : World) (C : Array Value) (T : TypeId) : Below w.heap.size w (w.alloc (.cells C T)) ∧ (w.alloc (.cells C T)).heap[w.heap.size]? = some (.cells C T (0, 0)) ∧ (w.alloc (.cells C T)).heap.size = w.heap.size + 1 :=
  ⟨(Below.refl _ _).alloc (Nat.le_refl _) _, heap_alloc_new w _, by simp⟩
structure Row1 (w : World) (B base : Nat) (sv : Value) (L : List Ty) (F : List (Array Value)) : Prop where
  len : F.length = L.length
  row : w.ownsRow base 29 7 sv L.length (F.flatMap (·.toList))
  seven : ∀ c ∈ F, c.size = 7
  each : ∀ i (h : i < L.length) (h' : i < F.length), TyM w (InM w B base (.slice none 0 0) sv) L[i] F[i]
theorem Row1.under {w w' : World} {B base : Nat} {sv : Value} {L : List Ty} {F : List (Array Value)} (h : Row1 w B base sv L F) (hb : Below w.heap.size w w') (hB : B ≤ w.heap.size) : Row1 w' B base sv L F :=
  ⟨h.len, owns_under h.row hb, h.seven, fun i hi hi' => (h.each i hi hi').move (fun b hM => by
    rcases hM with hM | hM
    · exact .inl hM
    · exact .inr ⟨hM.1, Nat.lt_of_lt_of_le hM.2.1 hb.size, hM.2.2⟩) (fun p hp => by
    rcases hp with hp | hp
    · exact hb.cell (Nat.lt_of_lt_of_le hp hB)
    · exact hb.cell hp.2.1)⟩
theorem Row1.nil (w : World) (B base : Nat) : Row1 w B base (.slice none 0 0) [] [] :=
  ⟨rfl, World.ownsRow_nil _ _ _ _, by simp, fun i hi => by simp at hi⟩
theorem Row1.push {w x3 x4 x5 : World} {B base gS cS : Nat} {sv : Value} {L : List Ty} {F : List (Array Value)} {t : Ty} {c : Array Value} (h : Row1 w B base sv L F) (hB : B ≤ base) (hbase : base ≤ w.heap.size)
    (hx3 : Below w.heap.size w x3) (hg2 : x3.grownBy x4 sv.ownBlock) (hx5 : ∀ b, (b < B ∨ base ≤ b) → x5.heap[b]? = x4.heap[b]?) (hz5 : x5.heap.size = x4.heap.size)
    (hS : x4.ownsRow base 29 7 (.slice (some ⟨gS, 0, none⟩) (L.length + 1) cS) (L.length + 1) (F.flatMap (·.toList) ++ c.toList)) (hSat : sv.ownBlock = some gS ∨ w.heap.size ≤ gS)
    (hc : c.size = 7) (ht : TyM w (InM w B base (.slice none 0 0) sv) t c) :
    Row1 x5 B base (.slice (some ⟨gS, 0, none⟩) (L.length + 1) cS) (L ++ [t]) (F ++ [c]) := by
  have s3 := hx3.size
  have s4 := hg2.size
  have hgS := owns_lt hS (show (Value.slice (some ⟨gS, 0, none⟩) (L.length + 1) cS).ownBlock = some gS from rfl)
  have hfar : ∀ b, b < w.heap.size → sv.ownBlock ≠ some b → (b < B ∨ base ≤ b) → x5.heap[b]? = w.heap[b]? := by
    intro b hb h2 h3
    rw [hx5 b h3, hg2.block b (by omega) (fun e => h2 e.symm), hx3.block b (by omega)]
  have hcell : ∀ p : Addr, p.block < w.heap.size → sv.ownBlock ≠ some p.block → (p.block < B ∨ base ≤ p.block) → x5.cell? p = w.cell? p :=
    fun p h0 h2 h3 => World.cell?_of_block (w := w) (hfar p.block h0 h2 h3)
  have hmove : ∀ {t c}, TyM w (InM w B base (.slice none 0 0) sv) t c → TyM x5 (InM x5 B base (.slice none 0 0) (.slice (some ⟨gS, 0, none⟩) (L.length + 1) cS)) t c := by
    intro t c ht
    refine ht.move (fun b hM => ?_) (fun p hM => ?_)
    · rcases hM with hM | ⟨m1, m2, m3, m4⟩
      · exact .inl hM
      · refine .inr ⟨m1, by omega, m3, ?_⟩
        rintro e
        simp [Value.ownBlock] at e
        subst e
        rcases hSat with hSat | hSat
        · exact m4 hSat
        · omega
    · rcases hM with hM | ⟨m1, m2, m3, m4⟩
      · exact hcell p (by omega) (fun e => by have := (owns_lt h.row e).1; omega) (.inl hM)
      · exact hcell p m2 m4 (.inr m1)
  refine ⟨by simp [h.len], ?_, ?_, ?_⟩
  · have e : (L ++ [t]).length = L.length + 1 := by simp
    rw [e, List.flatMap_append]
    have e2 : ([c] : List (Array Value)).flatMap (·.toList) = c.toList := by simp
    rw [e2]
    refine owns_keep hS fun g hg => ?_
    simp [Value.ownBlock] at hg
    subst hg
    exact hx5 _ (.inr hgS.1)
  · intro x hx
    rcases List.mem_append.1 hx with hx | hx
    · exact h.seven x hx
    · simp at hx; subst hx; exact hc
  · intro i hi hi'
    by_cases hil : i < L.length
    · have hif : i < F.length := by rw [h.len]; exact hil
      rw [List.getElem_append_left hil, List.getElem_append_left hif]
      exact hmove (h.each i hil hif)
    · have e : i = L.length := by simp at hi; omega
      subst e
      have e1 : (L ++ [t])[L.length] = t := by simp
      have e2 : (F ++ [c])[L.length] = c := by
        rw [List.getElem_append_right (by rw [h.len]; omega)]
        simp [h.len]
      rw [e1, e2]
      exact hmove ht
theorem strs_cells {w : World} {B : Nat} {a : Addr} {l : List ByteArray} (h : StrsAt w B (some a) l) : ∀ j u, (l.map Value.string)[j]? = some u → w.cell? (a.add j) = some u := by
  intro j u hu
  rcases h with rfl | ⟨b, o, hA, -, hc⟩
  · simp at hu
  · cases hA
    have hj : j < l.length := by have := (List.getElem?_eq_some_iff.1 hu).1; simpa using this
    rw [addN, hc j hj, ← hu]
    simp [hj]
def Few1 (t : Ty) : Prop := ∃ q : Int, 0 ≤ q ∧ q ≤ 3000 ∧ 0 ≤ fewT t q
structure CpRel (w wr : World) (t : Ty) (A1 : Option Addr) (c1 : Nat) (sv : Value) (F : List (Array Value)) (k : Nat) : Prop where
  below : Below w.heap.size w wr
  size : w.heap.size + 2 ≤ wr.heap.size
  box : Blk wr w.heap.size #[.int .i64 t.kind, .string t.pkg, .int .i64 t.major, .string t.mod, .string t.name, .slice A1 t.names.length c1, sv] 29
  zero : Blk wr (w.heap.size + 1) #[.int .i64 0, .string { data := #[] }, .int .i64 0, .string { data := #[] }, .string { data := #[] }, .slice none 0 0, .slice none 0 0] 29
  cap1 : t.names.length ≤ c1
  names : StrsM wr (InM wr 0 (w.heap.size + 2) (.slice none 0 0) sv) A1 t.names
  rows : Row1 wr 0 (w.heap.size + 2) sv (t.subs.take k) F
theorem CpRel.next {w wr w2 x3 x4 : World} {t : Ty} {A1 : Option Addr} {c1 k gS cS : Nat} {sv : Value} {F : List (Array Value)} {c : Array Value} (h : CpRel w wr t A1 c1 sv F k) (hk : k < t.subs.length) (hb : Below wr.heap.size wr w2) (ht : TyM w2 (Fresh wr w2) t.subs[k] c)
    (hx3 : Below w2.heap.size w2 x3) (hg2 : x3.grownBy x4 sv.ownBlock) (hS : x4.ownsRow (w.heap.size + 2) 29 7 (.slice (some ⟨gS, 0, none⟩) (k + 1) cS) (k + 1) (F.flatMap (·.toList) ++ c.toList)) (hSat : sv.ownBlock = some gS ∨ w2.heap.size ≤ gS) :
    CpRel w (x4.setCell ⟨w.heap.size, 6, none⟩ (.slice (some ⟨gS, 0, none⟩) (k + 1) cS)) t A1 c1 (.slice (some ⟨gS, 0, none⟩) (k + 1) cS) (F ++ [c]) (k + 1) := by
  have s0 := h.size
  have s1 := hb.size
  have s3 := hx3.size
  have s4 := hg2.size
  have hlen : (t.subs.take k).length = k := by rw [List.length_take]; omega
  have hrw := h.rows.under hb (Nat.zero_le _)
  have hown2 : ∀ g, sv.ownBlock = some g → w.heap.size + 2 ≤ g ∧ g < wr.heap.size := fun g hg => owns_lt h.rows.row hg
  have hgS := owns_lt hS (show (Value.slice (some ⟨gS, 0, none⟩) (k + 1) cS).ownBlock = some gS from rfl)
  have key : ∀ bb, bb < wr.heap.size → sv.ownBlock ≠ some bb → x4.heap[bb]? = wr.heap[bb]? := by
    intro bb hbb hn
    rw [hg2.block bb (by omega) (fun e => hn e.symm), hx3.block bb (by omega), hb.block bb hbb]
  have hnb : sv.ownBlock ≠ some w.heap.size := fun e => by have := hown2 _ e; omega
  have hnz : sv.ownBlock ≠ some (w.heap.size + 1) := fun e => by have := hown2 _ e; omega
  have hB4 : Below w.heap.size w x4 := by
    refine ⟨?_, ?_, ?_, by omega, fun bb hbb => (key bb (by omega) (fun e => by have := hown2 _ e; omega)).trans (h.below.block bb hbb)⟩
    · rw [hg2.os, hx3.os, hb.os, h.below.os]
    · rw [hg2.tape, hx3.tape, hb.tape, h.below.tape]
    · rw [hg2.output, hx3.output, hb.output, h.below.output]
  have hsz : (x4.setCell ⟨w.heap.size, 6, none⟩ (.slice (some ⟨gS, 0, none⟩) (k + 1) cS)).heap.size = x4.heap.size := by simp [World.setCell]
  have hfar : ∀ bb, bb ≠ w.heap.size → (x4.setCell ⟨w.heap.size, 6, none⟩ (.slice (some ⟨gS, 0, none⟩) (k + 1) cS)).heap[bb]? = x4.heap[bb]? := fun bb hbb => Below.heap_setCell _ _ _ _ hbb
  refine ⟨hB4.setCell (p := ⟨w.heap.size, 6, none⟩) (Nat.le_refl _) _, by rw [hsz]; omega, (show Blk x4 _ _ _ from (key _ (by omega) hnb).trans h.box).set 6 _, (show Blk x4 _ _ _ from (key _ (by omega) hnz).trans h.zero).far _ _ (by simp), h.cap1, ?_, ?_⟩
  · refine h.names.move (fun b hM => ?_) (fun p hM => ?_)
    · rcases hM with hM | ⟨m1, m2, m3, m4⟩
      · exact .inl hM
      · refine .inr ⟨m1, by rw [hsz]; omega, m3, fun e => ?_⟩
        simp [Value.ownBlock] at e
        subst e
        rcases hSat with hSat | hSat
        · exact m4 hSat
        · omega
    · rcases hM with hM | ⟨m1, m2, m3, m4⟩
      · omega
      · exact World.cell?_of_block (w := wr) ((hfar _ (by omega)).trans (key _ m2 m4))
  · have e1 : t.subs.take (k + 1) = t.subs.take k ++ [t.subs[k]] := List.take_succ_eq_append_getElem hk
    rw [e1]
    have hp := hrw.push (x5 := x4.setCell ⟨w.heap.size, 6, none⟩ (.slice (some ⟨gS, 0, none⟩) (k + 1) cS)) (gS := gS) (cS := cS) (t := t.subs[k]) (c := c) (Nat.zero_le _) (by omega) hx3 hg2 (fun bb hbb => hfar bb (by omega)) hsz (by rw [hlen]; exact hS) hSat ht.size (ht.mono fun b hM => .inr ⟨by have := hM.1; omega, hM.2, fun e => by simp [Value.ownBlock] at e, fun e => by have := hown2 _ e; have := hM.1; omega⟩)
    rw [hlen] at hp
    exact hp
theorem CpRel.last {w wr : World} {t : Ty} {A1 : Option Addr} {c1 : Nat} {sv : Value} {F : List (Array Value)} (h : CpRel w wr t A1 c1 sv F t.subs.length) (hf : Fits t) (v0 v1 v2 v3 v4 v5 v6 : Value) :
    ∃ sa sc, sv = .slice sa t.subs.length sc ∧ TyM (put7 wr (w.heap.size + 1) 0 v0 v1 v2 v3 v4 v5 v6) (Fresh w (put7 wr (w.heap.size + 1) 0 v0 v1 v2 v3 v4 v5 v6)) t (tyCells t A1 c1 sa sc) ∧ Below w.heap.size w (put7 wr (w.heap.size + 1) 0 v0 v1 v2 v3 v4 v5 v6) := by
  have hrw := h.rows
  rw [List.take_length] at hrw
  have hs : ∃ sa sc, sv = .slice sa t.subs.length sc ∧ t.subs.length ≤ sc ∧ RowsM wr (fun b => w.heap.size + 2 ≤ b ∧ b < wr.heap.size) sa t.subs.length (fun i => F.getD i #[]) := by
    have h1 := hrw.row
    obtain ⟨hl, ⟨hv, h0⟩ | ⟨g, cap, cur, hv, hg, hh, hn, -⟩⟩ := hrw.row
    · exact ⟨none, 0, by rw [hv, h0], by omega, .inl h0⟩
    · subst hv
      refine ⟨_, _, rfl, hn, .inr ⟨g, 0, rfl, ⟨hg, (Array.getElem?_eq_some_iff.1 hh).1⟩, fun i hi j hj => ?_⟩⟩
      have hif : i < F.length := by rw [hrw.len]; exact hi
      have hF : F.getD i #[] = F[i] := by simp [List.getD, hif]
      dsimp only at hj ⊢
      rw [hF] at hj ⊢
      have h7 := hrw.seven F[i] (List.getElem_mem hif)
      rw [Nat.zero_add, owns_cell h1 (by omega)]
      exact flat_at F hrw.seven i hif j (by omega)
  obtain ⟨sa, sc, rfl, hsc, hsm⟩ := hs
  have hM : ∀ b, InM wr 0 (w.heap.size + 2) (.slice none 0 0) (.slice sa t.subs.length sc) b → w.heap.size + 2 ≤ b ∧ b < wr.heap.size := fun b hb => by
    rcases hb with hb | hb
    · omega
    · exact ⟨hb.1, hb.2.1⟩
  have hty : TyM wr (fun b => w.heap.size + 2 ≤ b ∧ b < wr.heap.size) t (tyCells t A1 c1 sa sc) := by
    refine TyM.mk t A1 c1 sa sc (fun i => F.getD i #[]) hf (h.names.move hM fun _ _ => rfl) hsm h.cap1 hsc fun i hi => ?_
    have hif : i < F.length := by rw [hrw.len]; exact hi
    have hF : F.getD i #[] = F[i] := by simp [List.getD, hif]
    rw [hF]
    exact (hrw.each i hi hif).mono hM
  refine ⟨sa, sc, rfl, hty.move (fun b hb => ⟨by omega, by rw [put7_size]; exact hb.2⟩) (fun p hp => put7_cell _ _ _ _ _ _ _ (by omega)), put7_below _ _ _ _ _ _ _ h.below (by omega)⟩
end Go.Proofs.YtjeldfipipkfiaaGreatDoor
