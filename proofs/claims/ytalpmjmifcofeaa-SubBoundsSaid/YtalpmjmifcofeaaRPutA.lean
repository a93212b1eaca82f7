/- What merlonref09.put gathers, and what its loop holds. -/
import Derived.Test.YtalpmjmifcofeaaOut2
import Derived.Test.YtalpmjmifcofeaaBothA
namespace Go.Proofs.Ytalpmjmifcofeaa
open Go.RowKit
set_option linter.unusedSimpArgs false
set_option linter.unusedVariables false
def putStep (s : ByteArray) (x : Ty) (p : Bool × List (ByteArray × Ty)) (q : ByteArray × Ty) : Bool × List (ByteArray × Ty) :=
  if (!p.1 && ltB s q.1) = true then (true, p.2 ++ [(s, x)] ++ [q]) else (p.1, p.2 ++ [q])
def putAt (s : ByteArray) (x : Ty) (l : List (ByteArray × Ty)) (k : Nat) : Bool × List (ByteArray × Ty) := (l.take k).foldl (putStep s x) (false, [])
def putF (s : ByteArray) (x : Ty) (l : List (ByteArray × Ty)) : List (ByteArray × Ty) := if (putAt s x l l.length).1 = true then (putAt s x l l.length).2 else (putAt s x l l.length).2 ++ [(s, x)]
theorem putAt_succ (s : ByteArray) (x : Ty) (l : List (ByteArray × Ty)) (k : Nat) (h : k < l.length) : putAt s x l (k + 1) = putStep s x (putAt s x l k) l[k] := by
  unfold putAt
  rw [List.take_succ_eq_append_getElem h, List.foldl_append]
  rfl
theorem putAt_len (s : ByteArray) (x : Ty) (l : List (ByteArray × Ty)) : ∀ k, k ≤ l.length → (putAt s x l k).2.length ≤ k + 1 ∧ ((putAt s x l k).1 = false → (putAt s x l k).2.length = k)
  | 0, _ => by simp [putAt]
  | k + 1, h => by
    have ih := putAt_len s x l k (by omega)
    rw [putAt_succ s x l k (by omega), putStep]
    split
    · rename_i hc
      have h1 : (putAt s x l k).1 = false := by simp at hc; exact hc.1
      have := ih.2 h1
      refine ⟨by simp; omega, fun h => by simp at h⟩
    · rename_i hc
      by_cases h1 : (putAt s x l k).1 = false
      · have := ih.2 h1
        exact ⟨by simp; omega, fun _ => by simp; omega⟩
      · refine ⟨by simp; omega, fun h => absurd h h1⟩
theorem putF_len (s : ByteArray) (x : Ty) (l : List (ByteArray × Ty)) : (putF s x l).length ≤ l.length + 2 := by
  have := (putAt_len s x l l.length (Nat.le_refl _)).1
  unfold putF
  split
  · omega
  · simp; omega
def pairs (t : Ty) : List (ByteArray × Ty) := t.names.zip t.subs
theorem pairs_len {t : Ty} (h : t.names.length ≤ t.subs.length) : (pairs t).length = t.names.length := by
  unfold pairs
  rw [List.length_zip]
  omega
theorem pairs_at {t : Ty} {k : Nat} (h : k < t.names.length) (h' : k < t.subs.length) : (pairs t)[k]'(by unfold pairs; rw [List.length_zip]; omega) = (t.names[k], t.subs[k]) := by
  unfold pairs
  simp
/-- the two rows, and the elements' trees in memory that was there before -/
structure PutRow (w wr : World) (M : Nat → Prop) (nv sv : Value) (L : List (ByteArray × Ty)) (F : List (Array Value)) : Prop where
  below : Below (w.heap.size) w wr
  size : w.heap.size ≤ wr.heap.size
  rows : Out2 wr w.heap.size (w.heap.size) nv sv L F
  el : ∀ i (h : i < L.length) (h' : i < F.length), TyM w M L[i].2 F[i]
theorem PutRow.push {w wr x2 x4 : World} {M : Nat → Prop} {nv sv : Value} {L : List (ByteArray × Ty)} {F : List (Array Value)} {s : ByteArray} {y : Ty} {c : Array Value} {gN cN gS cS : Nat} {o1 o2 : Obj} (h : PutRow w wr M nv sv L F) (hM : ∀ b, M b → b < w.heap.size) (hy : TyM w M y c)
    (hN : x2.ownsRow (w.heap.size) 9 1 (.slice (some ⟨gN, 0, none⟩) (L.length + 1) cN) (L.length + 1) ((L.map fun p => Value.string p.1) ++ [.string s])) (hg1 : (wr.alloc o1).grownBy x2 nv.ownBlock) (hNat : nv.ownBlock = some gN ∨ gN = (wr.alloc o1).heap.size)
    (hS : x4.ownsRow (w.heap.size) 25 7 (.slice (some ⟨gS, 0, none⟩) (L.length + 1) cS) (L.length + 1) (F.flatMap (·.toList) ++ c.toList)) (hg2 : (x2.alloc o2).grownBy x4 sv.ownBlock) (hSat : sv.ownBlock = some gS ∨ gS = (x2.alloc o2).heap.size) :
    PutRow w x4 M (.slice (some ⟨gN, 0, none⟩) (L.length + 1) cN) (.slice (some ⟨gS, 0, none⟩) (L.length + 1) cS) (L ++ [(s, y)]) (F ++ [c]) := by
  have b1 : Below (w.heap.size) wr x2 := ((Below.refl _ wr).alloc h.size _).grown hg1 (by have := h.size; simp; omega) (fun k hk => (owns_lt h.rows.row1 hk).1)
  have s1 := b1.size
  have s0 := h.size
  have b2 : Below (w.heap.size) x2 x4 := ((Below.refl _ x2).alloc (by omega) _).grown hg2 (by simp; omega) (fun k hk => (owns_lt h.rows.row2 hk).1)
  have s2 := b2.size
  refine ⟨h.below.trans (b1.trans b2), by omega, ?_, fun i hi hi' => ?_⟩
  · have hy' : TyM wr (InM wr w.heap.size (w.heap.size) nv sv) y c := hy.move (fun b hb => .inl (hM b hb)) (fun p hp => h.below.cell (by have := hM _ hp; omega))
    exact h.rows.push (by omega) h.size ((Below.refl _ wr).alloc (Nat.le_refl _) _) hg1 ((Below.refl _ x2).alloc (Nat.le_refl _) _) hg2 (fun _ _ => rfl) rfl hN (hNat.imp id fun e => by rw [e]; simp) hS (hSat.imp id fun e => by rw [e]; simp) hy.size hy'
  · by_cases hil : i < L.length
    · have hif : i < F.length := by rw [h.rows.len]; exact hil
      rw [List.getElem_append_left hil, List.getElem_append_left hif]
      exact h.el i hil hif
    · have e : i = L.length := by simp at hi; omega
      subst e
      have e1 : (L ++ [(s, y)])[L.length] = (s, y) := by simp
      have e2 : (F ++ [c])[L.length] = c := by
        rw [List.getElem_append_right (by rw [h.rows.len]; omega)]
        simp [h.rows.len]
      rw [e1, e2]
      exact hy
theorem PutRow.first {w wr x2 : World} {M : Nat → Prop} {nv sv : Value} {L : List (ByteArray × Ty)} {F : List (Array Value)} {o1 : Obj} (h : PutRow w wr M nv sv L F) (hg1 : (wr.alloc o1).grownBy x2 nv.ownBlock) :
    Below (w.heap.size) wr x2 ∧ x2.ownsRow (w.heap.size) 25 7 sv L.length (F.flatMap (·.toList)) := by
  have s0 := h.size
  refine ⟨((Below.refl _ wr).alloc h.size _).grown hg1 (by simp; omega) (fun k hk => (owns_lt h.rows.row1 hk).1), owns_keep h.rows.row2 fun g hg => ?_⟩
  rw [hg1.block g (by have := (owns_lt h.rows.row2 hg).2; simp; omega) (fun e => h.rows.apart g e.symm hg)]
  exact heap_alloc_old wr _ (owns_lt h.rows.row2 hg).2
theorem PutRow.second {w wr x2 x4 : World} {M : Nat → Prop} {nv sv : Value} {L : List (ByteArray × Ty)} {F : List (Array Value)} {o2 : Obj} (h : PutRow w wr M nv sv L F) (hz : wr.heap.size ≤ x2.heap.size) (hg2 : (x2.alloc o2).grownBy x4 sv.ownBlock) : Below (w.heap.size) x2 x4 := by
  have s0 := h.size
  exact ((Below.refl _ x2).alloc (by omega) _).grown hg2 (by simp; omega) (fun k hk => (owns_lt h.rows.row2 hk).1)
def setRows (t : Ty) (L : List (ByteArray × Ty)) : Ty := .mk t.kind t.pkg t.major t.mod t.name (L.map (·.1)) (L.map (·.2))
theorem PutRow.ty {w wr : World} {M : Nat → Prop} {nv sv : Value} {L : List (ByteArray × Ty)} {F : List (Array Value)} {t : Ty} (h : PutRow w wr M nv sv L F) (hM : ∀ b, M b → b < w.heap.size) (hf : Fits (setRows t L)) :
    ∃ na nc sa sc, nv = .slice na L.length nc ∧ sv = .slice sa L.length sc ∧ TyM wr (fun b => M b ∨ (w.heap.size ≤ b ∧ b < wr.heap.size)) (setRows t L) (tyCells (setRows t L) na nc sa sc) := by
  have h1 := h.rows.row1
  have h2 := h.rows.row2
  have hn : ∃ na nc, nv = .slice na L.length nc ∧ L.length ≤ nc ∧ StrsM wr (fun b => M b ∨ (w.heap.size ≤ b ∧ b < wr.heap.size)) na (L.map (·.1)) := by
    obtain ⟨hl, ⟨hv, h0⟩ | ⟨g, cap, cur, hv, hg, hh, hn, -⟩⟩ := h.rows.row1
    · have : L = [] := by simpa using h0
      subst this
      exact ⟨none, 0, hv, Nat.le_refl _, .inl rfl⟩
    · subst hv
      refine ⟨_, _, rfl, hn, .inr ⟨g, 0, rfl, .inr ⟨hg, (Array.getElem?_eq_some_iff.1 hh).1⟩, fun i hi => ?_⟩⟩
      have hi' : i < L.length := by simpa using hi
      rw [Nat.zero_add, owns_cell h1 (by omega)]
      simp [hi']
  have hs : ∃ sa sc, sv = .slice sa L.length sc ∧ L.length ≤ sc ∧ RowsM wr (fun b => M b ∨ (w.heap.size ≤ b ∧ b < wr.heap.size)) sa L.length (fun i => F.getD i #[]) := by
    obtain ⟨hl, ⟨hv, h0⟩ | ⟨g, cap, cur, hv, hg, hh, hn, -⟩⟩ := h.rows.row2
    · exact ⟨none, 0, by rw [hv, h0], by omega, .inl h0⟩
    · subst hv
      refine ⟨_, _, rfl, hn, .inr ⟨g, 0, rfl, .inr ⟨hg, (Array.getElem?_eq_some_iff.1 hh).1⟩, fun i hi j hj => ?_⟩⟩
      have hif : i < F.length := by rw [h.rows.len]; exact hi
      have hF : F.getD i #[] = F[i] := by simp [List.getD, hif]
      dsimp only at hj ⊢
      rw [hF] at hj ⊢
      have h7 := h.rows.seven F[i] (List.getElem_mem hif)
      rw [Nat.zero_add, owns_cell h2 (by omega)]
      exact flat_at F h.rows.seven i hif j (by omega)
  obtain ⟨na, nc, rfl, hnc, hnm⟩ := hn
  obtain ⟨sa, sc, rfl, hsc, hsm⟩ := hs
  refine ⟨na, nc, sa, sc, rfl, rfl, TyM.mk (setRows t L) na nc sa sc (fun i => F.getD i #[]) hf (by simpa [setRows, Ty.names] using hnm) (by simpa [setRows, Ty.subs] using hsm) (by simpa [setRows, Ty.names] using hnc) (by simpa [setRows, Ty.subs] using hsc) fun i hi => ?_⟩
  have hi' : i < L.length := by simpa [setRows, Ty.subs] using hi
  have hif : i < F.length := by rw [h.rows.len]; exact hi'
  have hF : F.getD i #[] = F[i] := by simp [List.getD, hif]
  rw [hF]
  have e : (setRows t L).subs[i] = L[i].2 := by simp [setRows, Ty.subs]
  rw [e]
  exact (h.el i hi' hif).move (fun b hb => .inl hb) (fun p hp => h.below.cell (by have := hM _ hp; omega))
end Go.Proofs.Ytalpmjmifcofeaa
