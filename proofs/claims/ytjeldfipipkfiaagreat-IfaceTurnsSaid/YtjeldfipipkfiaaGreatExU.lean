/- The contract of the expander's typ, whatever the type is. -/
import Derived.Test.YtjeldfipipkfiaaGreatExT
namespace Go.Proofs.YtjeldfipipkfiaaGreat
open Go.RowKit
set_option linter.unusedSimpArgs false
set_option linter.unusedVariables false
theorem manyL_succ {l : List Ty} {k : Nat} (h : k < l.length) : manyL (l.take (k + 1)) = manyL (l.take k) + manyT l[k] := by
  rw [List.take_succ_eq_append_getElem h]
  have : ∀ (a : List Ty) (x : Ty), manyL (a ++ [x]) = manyL a + manyT x := by
    intro a x
    induction a with
    | nil => simp [manyL]
    | cons y a ih => simp only [List.cons_append, manyL, ih]; omega
  rw [this]
theorem manyL_take (l : List Ty) (k : Nat) : manyL (l.take k) ≤ manyL l := by
  have : ∀ (a b : List Ty), manyL (a ++ b) = manyL a + manyL b := by
    intro a b
    induction a with
    | nil => simp [manyL]
    | cons y a ih => simp only [List.cons_append, manyL, ih]; omega
  have h := this (l.take k) (l.drop k)
  rw [List.take_append_drop] at h
  have := manyL_pos (l.drop k)
  omega
theorem deepL_le {d : Int} (h0 : 0 ≤ d) : ∀ {l : List Ty}, (∀ s ∈ l, deepT s ≤ d) → deepL l ≤ d
  | [], _ => by rw [deepL]; exact h0
  | x :: l, h => by rw [deepL]; have := h x (by simp); have := deepL_le h0 (l := l) fun s hs => h s (by simp [hs]); omega
def TpSt (xs : List Ty) (L depth : Int) (ys : List Ty) (k : Nat) (Lk : Int) (gk : Bool) : Prop :=
  (gk = false ∧ ys = xs.take k ∧ Lk = L - 1 - manyL (xs.take k) ∧ 0 ≤ Lk ∧ ∀ s ∈ xs.take k, deepT s + (depth + 1) ≤ 33) ∨
    (gk = true ∧ (∃ i, ∃ h : i < xs.length, ¬ (manyT xs[i] ≤ L - 1 - manyL (xs.take i) ∧ deepT xs[i] + (depth + 1) ≤ 33)) ∧ -1 - 20 * (32 - depth) - k ≤ Lk ∧ Lk ≤ L)
theorem TpSt.pre {xs ys : List Ty} {L depth Lk : Int} {k : Nat} {gk : Bool} (h : TpSt xs L depth ys k Lk gk) (hk : k ≤ 20) (hL : L ≤ 500) (h1 : 1 ≤ depth) (h2 : depth ≤ 32) : TypPre Lk (depth + 1) gk := by
  rcases h with ⟨rfl, -, h3, h4, -⟩ | ⟨rfl, -, h3, h4⟩
  · have := manyL_pos (xs.take k)
    exact ⟨by omega, by omega, by omega, (fun h => by cases h), fun _ => h4⟩
  · exact ⟨by omega, by omega, by omega, (fun _ => by omega), (fun h => by cases h)⟩
theorem TpSt.next {xs ys : List Ty} {L depth Lk L' : Int} {k : Nat} {gk g' : Bool} {y : Ty} (h : TpSt xs L depth ys k Lk gk) (hk : k < xs.length) (hp : TypPost xs[k] Lk (depth + 1) gk y L' g') : TpSt xs L depth (ys ++ [y]) (k + 1) L' g' := by
  rcases h with ⟨rfl, rfl, rfl, h4, h5⟩ | ⟨rfl, h2, h3, h4⟩
  · rcases hp with ⟨h, -⟩ | ⟨-, ⟨p1, p2⟩, rfl, rfl, rfl⟩ | ⟨-, p1, rfl, p2, p3⟩
    · cases h
    · refine .inl ⟨rfl, (List.take_succ_eq_append_getElem hk).symm, by rw [manyL_succ hk]; omega, by omega, fun s hs => ?_⟩
      rw [List.take_succ_eq_append_getElem hk, List.mem_append, List.mem_singleton] at hs
      rcases hs with hs | rfl
      · exact h5 s hs
      · exact p2
    · have := manyL_pos (xs.take k)
      exact .inr ⟨rfl, ⟨k, hk, p1⟩, by omega, by omega⟩
  · rcases hp with ⟨-, rfl, rfl, rfl⟩ | ⟨h, -⟩ | ⟨h, -⟩
    · exact .inr ⟨rfl, h2, by omega, by omega⟩
    · cases h
    · cases h
theorem TpSt.last {t : Ty} {xs ys : List Ty} {L depth Lk : Int} {gk : Bool} (h : TpSt xs L depth ys xs.length Lk gk) (hk : xs.length ≤ 20) (h2 : depth ≤ 32) :
    TypPost (.mk t.kind t.pkg t.major t.mod t.name t.names xs) L depth false (.mk t.kind t.pkg t.major t.mod t.name t.names ys) Lk gk := by
  have em : manyT (.mk t.kind t.pkg t.major t.mod t.name t.names xs) = 1 + manyL xs := by rw [manyT_eq]; rfl
  have ed : deepT (.mk t.kind t.pkg t.major t.mod t.name t.names xs) = deepL xs + 1 := by rw [deepT_eq]; rfl
  rcases h with ⟨rfl, rfl, rfl, h4, h5⟩ | ⟨rfl, ⟨i, hi, hn⟩, h3, h4⟩
  · rw [List.take_length] at h4 h5 ⊢
    refine .inr (.inl ⟨rfl, ⟨by rw [em]; omega, ?_⟩, rfl, by rw [em]; omega, rfl⟩)
    have := deepL_le (d := 32 - depth) (by omega) (l := xs) fun s hs => by have := h5 s hs; omega
    rw [ed]; omega
  · refine .inr (.inr ⟨rfl, fun hf => hn ⟨?_, ?_⟩, rfl, by omega, h4⟩)
    · have h6 := manyL_succ hi
      have h7 := manyL_take xs (i + 1)
      have := hf.1
      rw [em] at this
      omega
    · have h6 := deepL_mem (List.getElem_mem hi)
      have := hf.2
      rw [ed] at this
      omega
structure TpRel (w wr : World) (B X : Nat) (E : Env) (ia : Option Addr) (ic : Nat) (da : Option Addr) (dc : Nat) (ea : Option Addr) (ec : Nat) (t : Ty) (xs : List Ty) (A1 : Option Addr) (c1 : Nat) (sv : Value) (ys : List Ty) (F : List (Array Value)) (k : Nat) (L depth Lk : Int) (gk : Bool) : Prop where
  fr : Fr (· = X) w wr
  size : w.heap.size + 3 ≤ wr.heap.size
  exa : ExA wr B X E ia ic da dc ea ec Lk gk
  res : Blk wr (w.heap.size + 1) #[.int .i64 0, .string { data := #[] }, .int .i64 0, .string { data := #[] }, .string { data := #[] }, .slice none 0 0, .slice none 0 0] 53
  box : Blk wr (w.heap.size + 1 + 1) #[.int .i64 t.kind, .string t.pkg, .int .i64 t.major, .string t.mod, .string t.name, .slice A1 t.names.length c1, sv] 53
  cap1 : t.names.length ≤ c1
  names : StrsM wr (InM wr 0 (w.heap.size + 3) (.slice none 0 0) sv) A1 t.names
  len : ys.length = k
  rows : Row1 wr 0 (w.heap.size + 3) sv ys F
  st : TpSt xs L depth ys k Lk gk
theorem TpRel.next {w wr w2 x3 x4 : World} {B X : Nat} {E : Env} {ia : Option Addr} {ic : Nat} {da : Option Addr} {dc : Nat} {ea : Option Addr} {ec : Nat} {t : Ty} {xs ys : List Ty} {A1 : Option Addr} {c1 k gS cS : Nat} {sv : Value} {F : List (Array Value)} {L depth Lk L' : Int} {gk g' : Bool} {y : Ty} {c : Array Value}
    (h : TpRel w wr B X E ia ic da dc ea ec t xs A1 c1 sv ys F k L depth Lk gk) (hk : k < xs.length) (hX : X < w.heap.size) (hf : Fr (· = X) wr w2) (hex : ExA w2 B X E ia ic da dc ea ec L' g') (ht : TyM w2 (Fresh wr w2) y c) (hpost : TypPost xs[k] Lk (depth + 1) gk y L' g')
    (hx3 : Below w2.heap.size w2 x3) (hg2 : x3.grownBy x4 sv.ownBlock) (hS : x4.ownsRow (w.heap.size + 3) 53 7 (.slice (some ⟨gS, 0, none⟩) (k + 1) cS) (k + 1) (F.flatMap (·.toList) ++ c.toList)) (hSat : sv.ownBlock = some gS ∨ w2.heap.size ≤ gS) :
    TpRel w (x4.setCell ⟨w.heap.size + 1 + 1, 6, none⟩ (.slice (some ⟨gS, 0, none⟩) (k + 1) cS)) B X E ia ic da dc ea ec t xs A1 c1 (.slice (some ⟨gS, 0, none⟩) (k + 1) cS) (ys ++ [y]) (F ++ [c]) (k + 1) L depth L' g' := by
  have s0 := h.size
  have s1 := hf.size
  have s3 := hx3.size
  have s4 := hg2.size
  have hrw := h.rows.fr hf (by omega)
  have hown2 : ∀ g, sv.ownBlock = some g → w.heap.size + 3 ≤ g ∧ g < wr.heap.size := fun g hg => owns_lt h.rows.row hg
  have hgS := owns_lt hS (show (Value.slice (some ⟨gS, 0, none⟩) (k + 1) cS).ownBlock = some gS from rfl)
  have key : ∀ bb, bb < wr.heap.size → sv.ownBlock ≠ some bb → bb ≠ X → x4.heap[bb]? = wr.heap[bb]? := by
    intro bb hbb hn hx
    rw [hg2.block bb (by omega) (fun e => hn e.symm), hx3.block bb (by omega), hf.block bb hbb hx]
  have hnr : sv.ownBlock ≠ some (w.heap.size + 1) := fun e => by have := hown2 _ e; omega
  have hnb : sv.ownBlock ≠ some (w.heap.size + 1 + 1) := fun e => by have := hown2 _ e; omega
  have hf4 : Fr (· = X) w x4 := ⟨by rw [hg2.os, hx3.os, hf.os, h.fr.os], by rw [hg2.tape, hx3.tape, hf.tape, h.fr.tape], by rw [hg2.output, hx3.output, hf.output, h.fr.output], by omega,
    fun bb hbb hn => (key bb (by omega) (fun e => by have := hown2 _ e; omega) hn).trans (h.fr.block bb hbb hn)⟩
  have hex4 : ExA x4 B X E ia ic da dc ea ec L' g' := (hex.under hx3).fr (M := fun b => sv.ownBlock = some b) ⟨hg2.os, hg2.tape, hg2.output, hg2.size, fun b hb hn => hg2.block b hb (fun e => hn e.symm)⟩ (fun b hb => by have := hown2 b hb; omega)
  have hfs := fr1 x4 (w.heap.size + 1 + 1) 6 (.slice (some ⟨gS, 0, none⟩) (k + 1) cS)
  have hsz : (x4.setCell ⟨w.heap.size + 1 + 1, 6, none⟩ (.slice (some ⟨gS, 0, none⟩) (k + 1) cS)).heap.size = x4.heap.size := by simp [World.setCell]
  have hfar : ∀ bb, bb ≠ w.heap.size + 1 + 1 → (x4.setCell ⟨w.heap.size + 1 + 1, 6, none⟩ (.slice (some ⟨gS, 0, none⟩) (k + 1) cS)).heap[bb]? = x4.heap[bb]? := fun bb hbb => Below.heap_setCell _ _ _ _ hbb
  refine ⟨hf4.trans hfs (fun b e => .inr (by have e : b = w.heap.size + 1 + 1 := e; omega)), by rw [hsz]; omega, hex4.fr hfs (fun b e => by have e : b = w.heap.size + 1 + 1 := e; omega), (show Blk x4 _ _ _ from (key _ (by omega) hnr (by omega)).trans h.res).far _ _ (by simp), ?_, h.cap1, ?_, by rw [List.length_append, h.len]; rfl, ?_, h.st.next hk hpost⟩
  · have := (show Blk x4 _ _ _ from (key _ (by omega) hnb (by omega)).trans h.box).set 6 (.slice (some ⟨gS, 0, none⟩) (k + 1) cS)
    simpa using this
  · refine h.names.move (fun b hM => ?_) (fun p hM => ?_)
    · rcases hM with hM | ⟨m1, m2, m3, m4⟩
      · exact .inl hM
      · refine .inr ⟨m1, by rw [hsz]; omega, m3, fun e => ?_⟩
        simp [Value.ownBlock] at e
        subst e
        rcases hSat with hSat | hSat
        · exact m4 hSat
        · omega
    · rcases hM with hM | ⟨m1, m2, m3, m4⟩
      · omega
      · exact World.cell?_of_block (w := wr) ((hfar _ (by omega)).trans (key _ m2 m4 (by omega)))
  · have hlen := h.len
    have hp := hrw.push (x5 := x4.setCell ⟨w.heap.size + 1 + 1, 6, none⟩ (.slice (some ⟨gS, 0, none⟩) (k + 1) cS)) (gS := gS) (cS := cS) (t := y) (c := c) (Nat.zero_le _) (by omega) hx3 hg2 (fun bb hbb => hfar bb (by omega)) hsz (by rw [hlen]; exact hS) hSat ht.size (ht.mono fun b hM => .inr ⟨by have := hM.1; omega, hM.2, fun e => by simp [Value.ownBlock] at e, fun e => by have := hown2 _ e; have := hM.1; omega⟩)
    rw [hlen] at hp
    exact hp
theorem TpRel.last {w wr : World} {B X : Nat} {E : Env} {ia : Option Addr} {ic : Nat} {da : Option Addr} {dc : Nat} {ea : Option Addr} {ec : Nat} {t : Ty} {xs ys : List Ty} {A1 : Option Addr} {c1 : Nat} {sv : Value} {F : List (Array Value)} {L depth Lk : Int} {gk : Bool}
    (h : TpRel w wr B X E ia ic da dc ea ec t xs A1 c1 sv ys F t.subs.length L depth Lk gk) (hf : Fits t) :
    ∃ sa sc, sv = .slice sa t.subs.length sc ∧ TyM wr (fun b => w.heap.size + 3 ≤ b ∧ b < wr.heap.size) (.mk t.kind t.pkg t.major t.mod t.name t.names ys) #[.int .i64 t.kind, .string t.pkg, .int .i64 t.major, .string t.mod, .string t.name, .slice A1 t.names.length c1, .slice sa t.subs.length sc] := by
  have hrw := h.rows
  have hlen := h.len
  have hs : ∃ sa sc, sv = .slice sa t.subs.length sc ∧ t.subs.length ≤ sc ∧ RowsM wr (fun b => w.heap.size + 3 ≤ b ∧ b < wr.heap.size) sa t.subs.length (fun i => F.getD i #[]) := by
    have h1 := hrw.row
    rw [hlen] at h1
    have h2 := h1
    obtain ⟨hl, ⟨hv, h0⟩ | ⟨g, cap, cur, hv, hg, hh, hn, -⟩⟩ := h2
    · exact ⟨none, 0, by rw [hv, h0], by omega, .inl h0⟩
    · subst hv
      refine ⟨_, _, rfl, hn, .inr ⟨g, 0, rfl, ⟨hg, (Array.getElem?_eq_some_iff.1 hh).1⟩, fun i hi j hj => ?_⟩⟩
      have hif : i < F.length := by rw [hrw.len, hlen]; exact hi
      have hF : F.getD i #[] = F[i] := by simp [List.getD, hif]
      dsimp only at hj ⊢
      rw [hF] at hj ⊢
      have h7 := hrw.seven F[i] (List.getElem_mem hif)
      rw [Nat.zero_add, owns_cell h1 (by omega)]
      exact flat_at F hrw.seven i hif j (by omega)
  obtain ⟨sa, sc, rfl, hsc, hsm⟩ := hs
  have hM : ∀ b, InM wr 0 (w.heap.size + 3) (.slice none 0 0) (.slice sa t.subs.length sc) b → w.heap.size + 3 ≤ b ∧ b < wr.heap.size := fun b hb => by
    rcases hb with hb | hb
    · omega
    · exact ⟨hb.1, hb.2.1⟩
  refine ⟨sa, sc, rfl, ?_⟩
  have := TyM.mk (w := wr) (M := fun b => w.heap.size + 3 ≤ b ∧ b < wr.heap.size) (.mk t.kind t.pkg t.major t.mod t.name t.names ys) A1 c1 sa sc (fun i => F.getD i #[]) ⟨hf.kind, hf.major, hf.pkg, hf.mod, hf.name, hf.names, hf.each, by show ys.length ≤ maxLen; rw [hlen]; exact hf.subs⟩ (h.names.move hM fun _ _ => rfl) (by show RowsM _ _ _ ys.length _; rw [hlen]; exact hsm) h.cap1 (by show ys.length ≤ sc; rw [hlen]; exact hsc) (fun i hi => by
    have hi : i < ys.length := hi
    have hif : i < F.length := by rw [hrw.len]; exact hi
    have hF : F.getD i #[] = F[i] := by simp [List.getD, hif]
    rw [hF]
    exact (hrw.each i hi hif).mono hM)
  simp only [tyCells, Ty.kind, Ty.pkg, Ty.major, Ty.mod, Ty.name, Ty.names, Ty.subs, hlen] at this
  cases t
  exact this
theorem tp_start {w W8 w9 : World} {B X : Nat} {E : Env} {ia : Option Addr} {ic : Nat} {da : Option Addr} {dc : Nat} {ea : Option Addr} {ec : Nat} {t : Ty} {xs : List Ty} {A1 : Option Addr} {c1 : Nat} {L depth : Int} {v5 v6 : Value} (hX : X < w.heap.size) (hfr : Fr (· = X) w W8) (hex : ExA W8 B X E ia ic da dc ea ec (L - 1) false) (hz : W8.heap.size = w.heap.size + 3)
    (hres : Blk W8 (w.heap.size + 1) #[.int .i64 0, .string { data := #[] }, .int .i64 0, .string { data := #[] }, .string { data := #[] }, .slice none 0 0, .slice none 0 0] 53) (hbox : Blk W8 (w.heap.size + 1 + 1) #[.int .i64 t.kind, .string t.pkg, .int .i64 t.major, .string t.mod, .string t.name, v5, v6] 53)
    (hb : Below W8.heap.size W8 w9) (hc : t.names.length ≤ c1) (hst : StrsM w9 (Fresh W8 w9) A1 t.names) (h0 : 0 ≤ L - 1) :
    TpRel w ((w9.setCell ⟨w.heap.size + 1 + 1, 5, none⟩ (.slice A1 t.names.length c1)).setCell ⟨w.heap.size + 1 + 1, 6, none⟩ (.slice none 0 0)) B X E ia ic da dc ea ec t xs A1 c1 (.slice none 0 0) [] [] 0 L depth (L - 1) false := by
  have s9 := hb.size
  have f1 := fr1 w9 (w.heap.size + 1 + 1) 5 (.slice A1 t.names.length c1)
  have f2 := fr1 (w9.setCell ⟨w.heap.size + 1 + 1, 5, none⟩ (.slice A1 t.names.length c1)) (w.heap.size + 1 + 1) 6 (.slice none 0 0)
  have f12 := f1.trans f2 (fun b h => .inl h)
  have hsz : ((w9.setCell ⟨w.heap.size + 1 + 1, 5, none⟩ (.slice A1 t.names.length c1)).setCell ⟨w.heap.size + 1 + 1, 6, none⟩ (.slice none 0 0)).heap.size = w9.heap.size := by simp [World.setCell]
  refine ⟨(hfr.trans (Fr.of_below hb) (fun b h => .inl h)).trans f12 (fun b e => .inr (by have e : b = w.heap.size + 1 + 1 := e; omega)), by rw [hsz]; omega, (hex.under hb).fr f12 (fun b e => by have e : b = w.heap.size + 1 + 1 := e; omega), (hres.under hb hres.lt).fr f12 (fun e => by have e : w.heap.size + 1 = w.heap.size + 1 + 1 := e; omega), ?_, hc, ?_, rfl, Row1.nil _ _ _, .inl ⟨rfl, by simp, by simp [manyL], h0, by simp⟩⟩
  · have := ((hbox.under hb hbox.lt).set 5 (.slice A1 t.names.length c1)).set 6 (.slice none 0 0)
    simpa using this
  · refine hst.move (fun b hb => .inr ⟨by have := hb.1; omega, by rw [hsz]; exact hb.2, fun e => by simp [Value.ownBlock] at e, fun e => by simp [Value.ownBlock] at e⟩) (fun p hp => ?_)
    exact f12.cell hp.2 (fun e => by have := hp.1; have e : p.block = w.heap.size + 1 + 1 := e; omega)
set_option maxRecDepth 100000 in
set_option maxHeartbeats 8000000 in
theorem typ_go {E : Env} {t : Ty} {xs : List Ty} (h8 : t.kind ≠ 8) (hall : allT t = true) (hxl : xs.length = t.subs.length) (hch : ∀ i (h1 : i < t.subs.length) (h2 : i < xs.length), TypF 52 E t.subs[i] xs[i])
    (B X : Nat) (ia : Option Addr) (ic : Nat) (da : Option Addr) (dc : Nat) (ea : Option Addr) (ec : Nat) (L depth : Int) (cs : Array Value) (w : World) (hE : ExA w B X E ia ic da dc ea ec L false) (ht : TyC w B t cs) (hp : TypPre L depth false) (h0 : 0 ≤ L - 1) (hd : depth ≤ 32) :
    Calls Tryz.prog 52 #[.pointer (some ⟨X, 0, none⟩), .agg cs, .int .i64 depth] w (TypRet w B X E ia ic da dc ea ec (.mk t.kind t.pkg t.major t.mod t.name t.names xs) L depth false) := by
  obtain ⟨iS, hiS, hzS0, hzS1, hzS2⟩ := info_parts info_type
  have hc8 : (t.kind == 8) = false := by simp [h8]
  obtain ⟨na, nc, sa, sc, f0, rfl, hft, hn, hs, -, -, hsub⟩ := ht.inv
  obtain ⟨hnl, hsl⟩ := shape_len hall
  have HE := Lib.hid hE
  have HN := Lib.hid hn
  have HS := Lib.hid hs
  have HU := Lib.hid hsub
  have HF := Lib.hid hft
  have hlX := hE.blk.lt
  have hB := hE.low
  obtain ⟨hL2, hd1, -, -, -⟩ := hp
  have HCC := Lib.hid hch
  have HXL := Lib.hid hxl
  simp only [tyCells]
  clear hE ht h8 hall hn hs hsub hft hch hxl
  go_enter Tryz.func52, Tryz.ntmps52
  go_upto_region 1 with fail
  obtain ⟨W, hWq, d0, d1, hz, hb⟩ := twoEX w #[.int .i64 t.kind, .string t.pkg, .int .i64 t.major, .string t.mod, .string t.name, .slice na t.names.length nc, .slice sa t.subs.length sc] #[.int .i64 0, .string { data := #[] }, .int .i64 0, .string { data := #[] }, .string { data := #[] }, .slice none 0 0, .slice none 0 0] 53 53
  rewrite [← hWq]; clear hWq
  have HB := Lib.hid hb
  have D0 := Lib.hid d0
  have D1 := Lib.hid d1
  have HX := Lib.hid (HE.out.under hb)
  obtain ⟨k0, k1, k2, k3, k4, k5, k6⟩ := cellsT7 d0
  have kl := d0.lt
  obtain ⟨x0, x1, x2, x3, x4, x5, x6, x7⟩ := cellsT8 HX.out.blk
  have lx := HX.out.blk.lt
  have f6 := HX.out.blk.free 6
  clear hb d0 d1
  go_upto_region 4 with fail
  have hx4 := HX.out.left (L - 1)
  have hf4 := fr1 W X 6 (.int .i64 (L - 1))
  have hz4 : (W.setCell ⟨X, 6, none⟩ (.int .i64 (L - 1))).heap.size = w.heap.size + 1 + 1 := by simp [World.setCell]; exact hz
  clear x0 x1 x2 x3 x4 x5 x6 x7 lx f6 k0 k1 k2 k3 k4 k5 k6 kl
  generalize W.setCell ⟨X, 6, none⟩ (.int .i64 (L - 1)) = W4 at hx4 hf4 hz4 ⊢
  have HX4 := Lib.hid hx4
  have HF4 := Lib.hid ((Fr.of_below HB.out).trans hf4 (fun b h => .inl h))
  have E0 := Lib.hid (D0.out.fr hf4 (fun e => by have e : w.heap.size = X := e; omega))
  have E1 := Lib.hid (D1.out.fr hf4 (fun e => by have e : w.heap.size + 1 = X := e; omega))
  obtain ⟨x0, x1, x2, x3, x4, x5, x6, x7⟩ := cellsT8 hx4.blk
  have lx := hx4.blk.lt
  obtain ⟨k0, k1, k2, k3, k4, k5, k6⟩ := cellsT7 E0.out
  have kl := E0.out.lt
  have h01 : ¬ L - 1 < 0 := by omega
  have h02 : ¬ 32 < depth := by omega
  clear hx4 hf4
  go_upto_region 9 with fail
  clear x0 x1 x2 x3 x4 x5 x6 x7 lx k0 k1 k2 k3 k4 k5 k6 kl
  obtain ⟨b8, hb8, hz8⟩ := laidN W4 #[.int .i64 t.kind, .string t.pkg, .int .i64 t.major, .string t.mod, .string t.name, .slice na t.names.length nc, .slice sa t.subs.length sc] 53
  rw [hz4] at b8 hz8
  generalize (W4.alloc (.cells #[.int .i64 t.kind, .string t.pkg, .int .i64 t.major, .string t.mod, .string t.name, .slice na t.names.length nc, .slice sa t.subs.length sc] 53)) = W8 at b8 hb8 hz8 ⊢
  have HX8 := Lib.hid (HX4.out.under hb8)
  have HF8 := Lib.hid (HF4.out.trans (Fr.of_below hb8) (M' := (· = X)) (fun b h => .inl h))
  have G0 := Lib.hid (E0.out.under hb8 E0.out.lt)
  have G1 := Lib.hid (E1.out.under hb8 E1.out.lt)
  have GB := Lib.hid b8
  have HCL := Lib.hid (cloneS_c na nc B t.names W8 (HN.out.under (HF8.out.below (B := B) (fun b e => by have e : b = X := e; omega) (by omega))) (by omega))
  obtain ⟨k0, k1, k2, k3, k4, k5, k6⟩ := cellsT7 G0.out
  have kl := G0.out.lt
  clear b8 hb8 hz4 h01 h02
  obtain ⟨-, -, -, -, -, e5, e6⟩ := cellsT7 GB.out
  have g5 := GB.out.free 5
  have g6 := GB.out.free 6
  have gl := GB.out.lt
  clear e5 e6 g5 g6 gl
  go_wp2_with (go_at_call 99; refine HCL.out.mono ?_; rintro e w9 ⟨⟨A1, c1, rfl, hc1, hst⟩, hb9⟩; have HST := Lib.hid hst; have HC1 := Lib.hid hc1; have HB9 := Lib.hid hb9; have q0 := G0.out.under hb9 G0.out.lt; have qb := GB.out.under hb9 GB.out.lt; clear hst hc1 hb9 k0 k1 k2 k3 k4 k5 k6 kl; obtain ⟨k0, k1, k2, k3, k4, k5, k6⟩ := cellsT7 q0; have kl := q0.lt; obtain ⟨-, -, -, -, -, e5, e6⟩ := cellsT7 qb; have g5 := qb.free 5; have g6 := qb.free 6; have gl := qb.lt; clear q0 qb)
  have hst := tp_start (xs := xs) (depth := depth) hlX HF8.out HX8.out (by omega) G1.out GB.out HB9.out HC1.out HST.out h0
  clear k0 k1 k2 k3 k4 k5 k6 kl e5 e6 g5 g6 gl
  generalize ((w9.setCell ⟨w.heap.size + 1 + 1, 5, none⟩ (.slice A1 t.names.length c1)).setCell ⟨w.heap.size + 1 + 1, 6, none⟩ (.slice none 0 0)) = Wx at hst ⊢
  have HST0 := Lib.hid hst
  have hxl := HXL.out
  clear hst
  go_loopw [50] (fun i wr => ∃ (k : Nat) (sv : Value) (ys : List Ty) (F : List (Array Value)) (Lk : Int) (gk : Bool), k ≤ t.subs.length ∧ i = .int .i64 k ∧ TpRel w wr B X E ia ic da dc ea ec t xs A1 c1 sv ys F k L depth Lk gk) (fun i _ => t.subs.length - (intOf i).toNat)
  case atStart => exact ⟨0, _, _, _, _, _, Nat.zero_le _, rfl, HST0.out⟩
  case round =>
    rename World => wr
    clear HST0
    obtain ⟨k, sv, ys, F, Lk, gk, hk, rfl, hr⟩ := hrel
    have HR := Lib.hid hr
    have hsz := hr.size
    clear hr
    by_cases hlt : k < t.subs.length
    · have hacc : Below B w wr := HR.out.fr.below (fun b e => by have e : b = X := e; omega) (by omega)
      have hT1 := (HU.out k hlt).under hacc
      obtain ⟨b2, o2, na2, nc2, sa2, sc2, hsa, hbb2, hfk2, c0, c1', c2, c3, c4, c5, c6⟩ := TyC.elem (HS.out.keep fun p hp => hacc.cell (p := p) hp) hlt hT1
      obtain rfl := hsa
      rw [hfk2] at hT1
      have HT1 := Lib.hid hT1
      have lb2 : b2 < wr.heap.size := by omega
      have hltI : (k : Int) < (t.subs.length : Int) := by omega
      have hk0 : (0 : Int) ≤ (k : Int) := by omega
      clear hT1 hfk2 hacc
      go_upto_region 13 with fail
      clear c0 c1' c2 c3 c4 c5 c6 lb2
      obtain ⟨W9, hWq, b9, h9, hz9⟩ := laidNX wr #[.int .i64 t.subs[k].kind, .string t.subs[k].pkg, .int .i64 t.subs[k].major, .string t.subs[k].mod, .string t.subs[k].name, .slice na2 t.subs[k].names.length nc2, .slice sa2 t.subs[k].subs.length sc2] 53
      rewrite [← hWq]; clear hWq
      have H9 := Lib.hid h9
      obtain ⟨d0, d1, d2, d3, d4, d5, d6⟩ := cellsT7 b9
      have hb6 := (HR.out.box.under h9 HR.out.box.lt).cell 6
      simp at hb6
      have HB6 := Lib.hid hb6
      have hpre := HR.out.st.pre (by omega) hL2 hd1 hd
      have HCH := Lib.hid (fun w' (hb : Below W9.heap.size W9 w') => HCC.out k hlt (hxl ▸ hlt) B X ia ic da dc ea ec Lk (depth + 1) gk _ w' ((HR.out.exa.under h9).under hb) ((HT1.out.under (h9.mono (show B ≤ wr.heap.size by omega))).under (hb.mono (show B ≤ W9.heap.size by omega))) hpre)
      simp only [tyCells] at HCH
      clear h9 b9 hb6 hpre
      have hwr : IntKind.i64.wrap (depth + 1) = depth + 1 := IntWalk.i64_in _ (by omega)
      refine wp_region_until [(8, fun w' => w'.cell? ⟨w.heap.size + 1 + 1, 6, none⟩ = some sv), (6, fun w' => w'.cell? ⟨wr.heap.size, 0, none⟩ = some (.int .i64 t.subs[k].kind) ∧ w'.cell? ⟨wr.heap.size, 1, none⟩ = some (.string t.subs[k].pkg) ∧ w'.cell? ⟨wr.heap.size, 2, none⟩ = some (.int .i64 t.subs[k].major) ∧ w'.cell? ⟨wr.heap.size, 3, none⟩ = some (.string t.subs[k].mod) ∧ w'.cell? ⟨wr.heap.size, 4, none⟩ = some (.string t.subs[k].name) ∧ w'.cell? ⟨wr.heap.size, 5, none⟩ = some (.slice na2 t.subs[k].names.length nc2) ∧ w'.cell? ⟨wr.heap.size, 6, none⟩ = some (.slice sa2 t.subs[k].subs.length sc2))] (by kernel_rfl) (Until.cons (fun _ => HB6.out) (Until.cons (fun _ => ⟨d0, d1, d2, d3, d4, d5, d6⟩) Until.nil)) (fun hU => ?_)
      refine AnyU.take (i := 0) (v := ?_) rfl (by kernel_rfl) (by kernel_rfl) (by kernel_rfl) (fun _ _ _ h => h) (by kernel_rfl) (by assumption) (by rfl) ?_ (fun hV => ?_)
      rotate_left 1
      · (intro wq; go_simp; try with_reducible rfl)
      clear hU; have hU := hV; clear hV
      try simp only [Act.put, aput]
      refine AnyU.loadc (i := 1) (d := 8) [8] (Si := fun w' => w'.cell? ⟨w.heap.size + 1 + 1, 6, none⟩ = some sv) (v := ?_) rfl (by kernel_rfl) (by kernel_rfl) (by kernel_rfl) (fun _ _ _ h => h) (by kernel_rfl) (by assumption) (by kernel_rfl) rfl (by simp) (by rfl) ?_ (fun hV => ?_)
      rotate_left 1
      · (intro wq hq; go_simp; try with_reducible rfl)
      clear hU; have hU := hV; clear hV
      try simp only [Act.put, aput]
      refine AnyU.take (i := 2) (v := ?_) rfl (by kernel_rfl) (by kernel_rfl) (by kernel_rfl) (fun _ _ _ h => h) (by kernel_rfl) (by assumption) (by rfl) ?_ (fun hV => ?_)
      rotate_left 1
      · (intro wq; go_simp; try with_reducible rfl)
      clear hU; have hU := hV; clear hV
      try simp only [Act.put, aput]
      refine AnyU.loadc (i := 3) (d := 6) [6] (Si := fun w' => w'.cell? ⟨wr.heap.size, 0, none⟩ = some (.int .i64 t.subs[k].kind) ∧ w'.cell? ⟨wr.heap.size, 1, none⟩ = some (.string t.subs[k].pkg) ∧ w'.cell? ⟨wr.heap.size, 2, none⟩ = some (.int .i64 t.subs[k].major) ∧ w'.cell? ⟨wr.heap.size, 3, none⟩ = some (.string t.subs[k].mod) ∧ w'.cell? ⟨wr.heap.size, 4, none⟩ = some (.string t.subs[k].name) ∧ w'.cell? ⟨wr.heap.size, 5, none⟩ = some (.slice na2 t.subs[k].names.length nc2) ∧ w'.cell? ⟨wr.heap.size, 6, none⟩ = some (.slice sa2 t.subs[k].subs.length sc2)) (v := ?_) rfl (by kernel_rfl) (by kernel_rfl) (by kernel_rfl) (fun _ _ _ h => h) (by kernel_rfl) (by assumption) (by kernel_rfl) rfl (by simp) (by rfl) ?_ (fun hV => ?_)
      rotate_left 1
      · (intro wq hq; obtain ⟨u0, u1, u2, u3, u4, u5, u6⟩ := hq; go_simp; try with_reducible rfl)
      clear hU; have hU := hV; clear hV
      try simp only [Act.put, aput]
      refine AnyU.take (i := 4) (v := ?_) rfl (by kernel_rfl) (by kernel_rfl) (by kernel_rfl) (fun _ _ _ h => h) (by kernel_rfl) (by assumption) (by rfl) ?_ (fun hV => ?_)
      rotate_left 1
      · (intro wq; go_simp; try with_reducible rfl)
      clear hU; have hU := hV; clear hV
      try simp only [Act.put, aput]
      refine AnyU.take (i := 5) (v := ?_) rfl (by kernel_rfl) (by kernel_rfl) (by kernel_rfl) (fun _ _ _ h => h) (by kernel_rfl) (by assumption) (by rfl) ?_ (fun hV => ?_)
      rotate_left 1
      · (intro wq; go_simp; try with_reducible rfl)
      clear hU; have hU := hV; clear hV
      try simp only [Act.put, aput]
      refine AnyU.ready1 (i := 6) (by kernel_rfl) (AnyU.one rfl fun K hK => ?_)
      go_simp
      go_at_call 52
      refine (HCH.out W9.drew ((Below.refl _ _).drew)).mono ?_
      clear hwr
      rintro e w2 ⟨cs1, y, L', g', rfl, hty, hex, hfr, hpost⟩
      obtain ⟨na3, nc3, sa3, sc3, f3, rfl, -⟩ := hty.inv
      have HTY := Lib.hid (show TyM w2 (Fresh wr w2) y _ from hty.mono fun b hb => ⟨Nat.le_trans (Nat.le_of_lt (show wr.heap.size < W9.heap.size by omega)) hb.1, hb.2⟩)
      have HEX2 := Lib.hid hex
      have HFR2 := Lib.hid (show Fr (· = X) wr w2 from (Fr.of_below H9.out.drew).trans hfr (fun b h => .inl h))
      have HPO := Lib.hid hpost
      have hbx2 := HR.out.box.fr HFR2.out (fun e => by have e : w.heap.size + 1 + 1 = X := e; omega)
      have HBX2 := Lib.hid hbx2
      have hrw2 := HR.out.rows.fr HFR2.out (by omega)
      have HRW2 := Lib.hid hrw2
      have hsw : wr.heap.size ≤ w2.heap.size := HFR2.out.size
      clear hty hex hfr hpost hbx2 hrw2
      refine hK.out _ _ (Until.cons (fun _ => HBX2.out.cell 6) (Until.cons (fun h => absurd h (by decide)) Until.nil)) (fun hV => ?_)
      clear hK K hU
      have hU := hV
      clear hV
      try simp only [Act.put, aput]
      refine AnyU.ready1 (i := 7) (by kernel_rfl) (AnyU.one rfl fun K hK => ?_)
      simp only [tyCells]
      go_simp
      obtain ⟨hX3, hbS3, hszX3⟩ := laid0 w2 #[.int .i64 y.kind, .string y.pkg, .int .i64 y.major, .string y.mod, .string y.name, .slice na3 y.names.length nc3, .slice sa3 y.subs.length sc3] 53
      generalize (w2.alloc (.cells #[.int .i64 y.kind, .string y.pkg, .int .i64 y.major, .string y.mod, .string y.name, .slice na3 y.names.length nc3, .slice sa3 y.subs.length sc3] 53)) = X3 at hX3 hbS3 hszX3 ⊢
      refine hK.out _ _ (Until.cons (fun _ => (HBX2.out.under hX3 HBX2.out.lt).cell 6) (Until.cons (fun h => absurd h (by decide)) Until.nil)) (fun hV => ?_)
      clear hK K hU
      have hU := hV
      clear hV
      try simp only [Act.put, aput]
      refine AnyU.ready1 (i := 8) (by kernel_rfl) (AnyU.one rfl fun K hK => ?_)
      have hone7 : ∀ u ∈ (#[.int .i64 y.kind, .string y.pkg, .int .i64 y.major, .string y.mod, .string y.name, .slice na3 y.names.length nc3, .slice sa3 y.subs.length sc3] : Array Value).toList, u.oneCell' = true := by simp [Value.oneCell']
      refine step_append_lies X3 (by rfl) _ _ _ (by rfl) (w.heap.size + 3) 53 iS _ 7 112 Tryz.underlying51 hiS hzS0 hzS1 hzS2 rfl (by decide) sv k (F.flatMap (·.toList)) (by rfl) (owns_under (by have h := HRW2.out.row; rw [HR.out.len] at h; exact h) hX3) ⟨w2.heap.size, 0, none⟩ 1 1 (#[.int .i64 y.kind, .string y.pkg, .int .i64 y.major, .string y.mod, .string y.name, .slice na3 y.names.length nc3, .slice sa3 y.subs.length sc3] : Array Value).toList (by rfl) (by rfl) (World.news_of_block (cs := #[.int .i64 y.kind, .string y.pkg, .int .i64 y.major, .string y.mod, .string y.name, .slice na3 y.names.length nc3, .slice sa3 y.subs.length sc3]) (t := 53) (fr := (0, 0)) hbS3) hone7 (by decide) (by unfold maxLen; omega) (by omega) (by have := hX3.size; omega) _ rfl ?_
      intro gS cS x4 hownS hgS hatS hltS
      have hsb : sv.ownBlock ≠ some (w.heap.size + 1 + 1) := fun e => by have := owns_lt HRW2.out.row e; omega
      have hb4 := grown_box hgS (HBX2.out.under hX3 HBX2.out.lt) hsb
      have r6 := hb4.cell 6
      have rf6 := hb4.free 6
      simp at r6
      refine hK.out _ _ (Until.offT (by kernel_rfl)) (fun hV => ?_)
      clear hK K hU
      have hU := hV
      clear hV
      try simp only [Act.put, aput]
      refine AnyU.take (i := 9) (v := ?_) rfl (by kernel_rfl) (by kernel_rfl) (by kernel_rfl) (fun _ _ _ h => h) (by kernel_rfl) (by assumption) (by rfl) ?_ (fun hV => ?_)
      rotate_left 1
      · (intro wq; go_simp; try with_reducible rfl)
      clear hU; have hU := hV; clear hV
      try simp only [Act.put, aput]
      refine AnyU.ready1 (i := 10) (by kernel_rfl) (AnyU.one rfl fun K hK => ?_)
      go_simp
      refine hK.out _ _ (Until.offT (by kernel_rfl)) (fun hV => ?_)
      clear hK K hU
      have hU := hV
      clear hV
      try simp only [Act.put, aput]
      refine AnyU.done (by kernel_rfl) ?_
      have hnx := HR.out.next (hxl ▸ hlt) hlX HFR2.out HEX2.out HTY.out HPO.out hX3 hgS hownS (hatS.imp id fun e => by rw [e]; exact hX3.size)
      have HNX := Lib.hid hnx
      generalize (x4.setCell ⟨w.heap.size + 1 + 1, 6, none⟩ (.slice (some ⟨gS, 0, none⟩) (k + 1) cS)) = Wz at HNX ⊢
      clear hU hnx r6 rf6 hb4 hownS hgS hatS hltS hX3 hbS3 hszX3 hsb hone7
      go_wp2
      first
        | exact ⟨⟨k + 1, _, _, _, _, _, by omega, by go_num, HNX.out⟩, by simp [intOf]; omega⟩
        | (go_roundw
           case rel => exact ⟨k + 1, _, _, _, _, _, by omega, by go_num, HNX.out⟩
           case measure => simp [intOf]; omega)
    · obtain rfl : k = t.subs.length := by omega
      obtain ⟨sa9, sc9, rfl, hlast⟩ := HR.out.last HF.out
      have HLA := Lib.hid hlast
      have hltI : ¬ (t.subs.length : Int) < (t.subs.length : Int) := by omega
      have hb2 := HR.out.box
      have hb1 := HR.out.res
      obtain ⟨k0, k1, k2, k3, k4, k5, k6⟩ := cellsT7 hb2
      have kl := hb2.lt
      obtain ⟨e0, e1, e2, e3, e4, e5, e6⟩ := cellsT7 hb1
      have f0 := hb1.free 0
      have f1 := hb1.free 1
      have f2 := hb1.free 2
      have f3 := hb1.free 3
      have f4 := hb1.free 4
      have f5 := hb1.free 5
      have f6 := hb1.free 6
      have le := hb1.lt
      have HB1 := Lib.hid hb1
      clear hlast hb2 hb1
      go_wp2_with fail
      have hp := pf7 (.int .i64 t.kind) (.string t.pkg) (.int .i64 t.major) (.string t.mod) (.string t.name) (.slice A1 t.names.length c1) (.slice sa9 t.subs.length sc9) HB1.out
      have hfz := fr7 wr (g := w.heap.size + 1) (.int .i64 t.kind) (.string t.pkg) (.int .i64 t.major) (.string t.mod) (.string t.name) (.slice A1 t.names.length c1) (.slice sa9 t.subs.length sc9)
      generalize (((((((wr.setCell ⟨w.heap.size + 1, 0, none⟩ (.int .i64 t.kind)).setCell ⟨w.heap.size + 1, 1, none⟩ (.string t.pkg)).setCell ⟨w.heap.size + 1, 2, none⟩ (.int .i64 t.major)).setCell ⟨w.heap.size + 1, 3, none⟩ (.string t.mod)).setCell ⟨w.heap.size + 1, 4, none⟩ (.string t.name)).setCell ⟨w.heap.size + 1, 5, none⟩ (.slice A1 t.names.length c1)).setCell ⟨w.heap.size + 1, 6, none⟩ (.slice sa9 t.subs.length sc9)) = Wz at hp hfz ⊢
      obtain ⟨r0, r1, r2, r3, r4, r5, r6⟩ := cellsT7 hp
      refine bodyPost_ret (by simp [results, Tryz.results52, go_sem, r0, r1, r2, r3, r4, r5, r6]; try rfl) rfl ?_
      exact ⟨_, .mk t.kind t.pkg t.major t.mod t.name t.names ys, Lk, gk, rfl, HLA.out.move (fun b hb => ⟨by have := hb.1; omega, Nat.lt_of_lt_of_le hb.2 hfz.size⟩) (fun p hp => hfz.cell hp.2 (fun e => by have := hp.1; have e : p.block = w.heap.size + 1 := e; omega)), HR.out.exa.fr hfz (fun b e => by have e : b = w.heap.size + 1 := e; omega), HR.out.fr.trans hfz (fun b e => .inr (by have e : b = w.heap.size + 1 := e; omega)), by have := HR.out.st; rw [← hxl] at this; exact this.last (by omega) hd⟩
theorem typ_node {E : Env} {t : Ty} {xs : List Ty} (h8 : t.kind ≠ 8) (hall : allT t = true) (hxl : xs.length = t.subs.length) (hch : ∀ i (h1 : i < t.subs.length) (h2 : i < xs.length), TypF 52 E t.subs[i] xs[i]) : TypF 52 E t (.mk t.kind t.pkg t.major t.mod t.name t.names xs) := by
  intro B X ia ic da dc ea ec L depth g cs w hE ht hp
  by_cases hs : g = true ∨ L - 1 < 0 ∨ 32 < depth
  · exact typ_stop h8 B X ia ic da dc ea ec L depth g cs w hE ht hp hs
  · rw [not_or, not_or] at hs
    obtain ⟨h1, h2, h3⟩ := hs
    obtain rfl : g = false := by cases g; rfl; exact absurd rfl h1
    exact typ_go h8 hall hxl hch B X ia ic da dc ea ec L depth cs w hE ht hp (by omega) (by omega)
theorem typ_c {E : Env} (hd : ∀ d ∈ E.m.decls, dclOk d = true) (h1 : smallB E.pkg = true) (h2 : 1 ≤ E.major) (h3 : E.major ≤ 999999999) (h4 : smallB E.m.name = true) (h5 : E.pkg.size ≤ maxLen) {t x : Ty} (h : Exp E t x) : allT t = true → TypF 52 E t x := by
  induction h with
  | alias h8 hm hdd hk _ ih => exact fun _ => typ_loc h8 (loc_alias hm hdd hk (ih (may_all (dcl_alias (hd _ (declOf_mem hdd).1) hk).2).1))
  | @opn t d h8 hm hdd hk =>
    intro ht
    rw [allT_eq, Bool.and_eq_true] at ht
    have hall : allT (openT E t.name) = true := by rw [allT_eq, shape_open h1 h2 h3 h4 (shape_great ht.1 h8)]; rfl
    have := typ_node (E := E) (t := openT E t.name) (xs := []) (by show (9 : Int) ≠ 8; decide) hall rfl (fun i hi => absurd hi (by simp [openT, Ty.subs]))
    exact typ_loc h8 (loc_opn hm hdd hk h5 ⟨by omega, by omega⟩ this)
  | there h8 hm hp _ ih => exact fun _ => typ_loc h8 (loc_there hm (ih (may_all (plain_of (plain_there hp)).1).1))
  | @node t xs h8 hl _ ih =>
    intro ht
    have ht2 := ht
    rw [allT_eq, Bool.and_eq_true] at ht2
    exact typ_node h8 ht hl fun i h1 h2 => ih i h1 h2 (allX_mem ht2.2 (List.getElem_mem h1))
end Go.Proofs.YtjeldfipipkfiaaGreat
