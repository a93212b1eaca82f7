/- The contract of merlonlaw09.spoil: it writes into the blocks of its type alone. -/
import Derived.Test.YtalpmjmifcofeaaCopiedO
import Derived.Test.YtalpmjmifcofeaaSubP
namespace Go.Proofs.Ytalpmjmifcofeaa
open Go.RowKit
set_option linter.unusedSimpArgs false
set_option linter.unusedVariables false
/-- the same but for a string's bytes, a number -/
def Alk (v v' : Value) : Prop := v' = v ∨ (∃ s s', v = .string s ∧ v' = .string s') ∨ (∃ i i', v = .int .i64 i ∧ v' = .int .i64 i')
theorem Alk.trans {a b c : Value} (h : Alk a b) (h' : Alk b c) : Alk a c := by
  rcases h with rfl | ⟨s, s', rfl, rfl⟩ | ⟨i, i', rfl, rfl⟩
  · exact h'
  · rcases h' with rfl | ⟨s, s', h1, rfl⟩ | ⟨i, i', h1, rfl⟩
    · exact .inr (.inl ⟨_, _, rfl, rfl⟩)
    · exact .inr (.inl ⟨_, _, rfl, rfl⟩)
    · cases h1
  · rcases h' with rfl | ⟨s, s', h1, rfl⟩ | ⟨i, i', h1, rfl⟩
    · exact .inr (.inr ⟨_, _, rfl, rfl⟩)
    · cases h1
    · exact .inr (.inr ⟨_, _, rfl, rfl⟩)
theorem Alk.str {s : ByteArray} {v : Value} (h : Alk (.string s) v) : ∃ s', v = .string s' := by
  rcases h with rfl | ⟨s, s', h1, rfl⟩ | ⟨i, i', h1, rfl⟩
  · exact ⟨_, rfl⟩
  · exact ⟨_, rfl⟩
  · cases h1
theorem Alk.num {i : Int} {v : Value} (h : Alk (.int .i64 i) v) : ∃ i', v = .int .i64 i' := by
  rcases h with rfl | ⟨s, s', h1, rfl⟩ | ⟨i, i', h1, rfl⟩
  · exact ⟨_, rfl⟩
  · cases h1
  · exact ⟨_, rfl⟩
theorem Alk.slc {a : Option Addr} {n c : Nat} {v : Value} (h : Alk (.slice a n c) v) : v = .slice a n c := by
  rcases h with rfl | ⟨s, s', h1, rfl⟩ | ⟨i, i', h1, rfl⟩
  · rfl
  · cases h1
  · cases h1
structure Sim (w w' : World) : Prop where
  cell : ∀ p v, w.cell? p = some v → ∃ v', w'.cell? p = some v' ∧ Alk v v'
  froz : ∀ p : Addr, p.block < w.heap.size → w'.frozen? p = w.frozen? p
  size : w.heap.size ≤ w'.heap.size
theorem Sim.refl (w : World) : Sim w w := ⟨fun p v h => ⟨v, h, .inl rfl⟩, fun _ _ => rfl, Nat.le_refl _⟩
theorem Sim.trans {a b c : World} (h : Sim a b) (h' : Sim b c) : Sim a c := by
  refine ⟨fun p v hv => ?_, fun p hp => (h'.froz p (Nat.lt_of_lt_of_le hp h.size)).trans (h.froz p hp), Nat.le_trans h.size h'.size⟩
  obtain ⟨v1, h1, a1⟩ := h.cell p v hv
  obtain ⟨v2, h2, a2⟩ := h'.cell p v1 h1
  exact ⟨v2, h2, a1.trans a2⟩
theorem Sim.set {w : World} {p : Addr} {v u : Value} (h : w.cell? p = some v) (ha : Alk v u) : Sim w (w.setCell p u) := by
  refine ⟨fun q x hx => ?_, fun q _ => World.frozen?_setCell .., by simp [World.setCell]⟩
  by_cases e : p = q
  · subst e
    rw [h] at hx
    obtain rfl := Option.some.inj hx
    exact ⟨u, World.cell?_setCell_same _ _ _ h, ha⟩
  · exact ⟨x, by rw [World.cell?_setCell_other _ _ _ _ e]; exact hx, .inl rfl⟩
theorem Sim.alloc (w : World) (o : Obj) : Sim w (w.alloc o) :=
  ⟨fun p v h => ⟨v, by rw [World.cell?_alloc_lt _ _ _ (World.block_lt_of_cell? w _ h)]; exact h, .inl rfl⟩, fun p hp => World.frozen?_alloc_old _ _ _ (Nat.ne_of_lt hp), by simp⟩
/-- nothing is written but blocks from B to E, and new ones -/
structure Btw (B E : Nat) (w w' : World) : Prop where
  os : w'.os = w.os
  tape : w'.tape = w.tape
  output : w'.output = w.output
  size : w.heap.size ≤ w'.heap.size
  block : ∀ k, k < w.heap.size → (k < B ∨ E ≤ k) → w'.heap[k]? = w.heap[k]?
theorem Btw.refl (B E : Nat) (w : World) : Btw B E w w := ⟨rfl, rfl, rfl, Nat.le_refl _, fun _ _ _ => rfl⟩
theorem Btw.trans {B E : Nat} {a b c : World} (h : Btw B E a b) (h' : Btw B E b c) : Btw B E a c :=
  ⟨h'.os.trans h.os, h'.tape.trans h.tape, h'.output.trans h.output, Nat.le_trans h.size h'.size, fun k hk he => (h'.block k (Nat.lt_of_lt_of_le hk h.size) he).trans (h.block k hk he)⟩
theorem Btw.set {B E : Nat} (w : World) {p : Addr} (h1 : B ≤ p.block) (h2 : p.block < E) (v : Value) : Btw B E w (w.setCell p v) :=
  ⟨rfl, rfl, rfl, by simp [World.setCell], fun k _ he => Below.heap_setCell _ _ _ _ (by omega)⟩
theorem Btw.alloc (B E : Nat) (w : World) (o : Obj) : Btw B E w (w.alloc o) := ⟨rfl, rfl, rfl, by simp, fun k hk _ => heap_alloc_old w o hk⟩
theorem Btw.below {B E : Nat} {w w' : World} (h : Btw B E w w') (hB : B ≤ w.heap.size) : Below B w w' := ⟨h.os, h.tape, h.output, h.size, fun k hk => h.block k (by omega) (.inl hk)⟩
theorem Btw.blk {B E b : Nat} {w w' : World} {C : Array Value} {T : TypeId} (h : Btw B E w w') (hb : Blk w b C T) (he : b < B ∨ E ≤ b) : Blk w' b C T := (h.block b hb.lt he).trans hb
/-- a struct's cells that spoil may walk -/
def Shp : Nat → World → Nat → Nat → Array Value → Prop
  | 0, _, _, _, _ => False
  | n + 1, w, B, E, cs => ∃ (k : Int) (p : ByteArray) (mj : Int) (md nm : ByteArray) (na : Option Addr) (l nc : Nat) (sa : Option Addr) (m sc : Nat),
      cs = #[.int .i64 k, .string p, .int .i64 mj, .string md, .string nm, .slice na l nc, .slice sa m sc] ∧ l ≤ 1000 ∧ m ≤ 1000 ∧
      (∀ i, i < l → ∃ b o s, na = some ⟨b, o, none⟩ ∧ (B ≤ b ∧ b < E) ∧ w.cell? ⟨b, o + i, none⟩ = some (.string s) ∧ w.frozen? ⟨b, o + i, none⟩ = false) ∧
      (∀ i, i < m → ∃ b o c, sa = some ⟨b, o, none⟩ ∧ (B ≤ b ∧ b < E) ∧ (∀ j, j < 7 → w.cell? ⟨b, o + i * 7 + j, none⟩ = c[j]?) ∧ w.frozen? ⟨b, o + i * 7, none⟩ = false ∧ Shp n w B E c)
theorem arr_seven {c : Array Value} {a0 a1 a2 a3 a4 a5 a6 : Value} (hs : c.size = 7) (h0 : c[0]? = some a0) (h1 : c[1]? = some a1) (h2 : c[2]? = some a2) (h3 : c[3]? = some a3) (h4 : c[4]? = some a4) (h5 : c[5]? = some a5) (h6 : c[6]? = some a6) : c = #[a0, a1, a2, a3, a4, a5, a6] := by
  apply Array.ext_getElem?
  intro i
  match i with
  | 0 => simpa using h0
  | 1 => simpa using h1
  | 2 => simpa using h2
  | 3 => simpa using h3
  | 4 => simpa using h4
  | 5 => simpa using h5
  | 6 => simpa using h6
  | i + 7 => rw [Array.getElem?_eq_none (by omega), Array.getElem?_eq_none (by simp)]
theorem Shp.move : ∀ (n : Nat) {w w' : World} {B E : Nat} {cs cs' : Array Value}, Shp n w B E cs → Sim w w' → (∀ (j : Nat) (v : Value), cs[j]? = some v → ∃ v', cs'[j]? = some v' ∧ Alk v v') → cs'.size = 7 → Shp n w' B E cs'
  | 0, _, _, _, _, _, _, h, _, _, _ => h.elim
  | n + 1, w, w', B, E, cs, cs', h, hs, hc, hz => by
    obtain ⟨k, p, mj, md, nm, na, l, nc, sa, m, sc, rfl, hl, hm, hn, hsub⟩ := h
    obtain ⟨v0, c0, a0⟩ := hc 0 _ rfl
    obtain ⟨v1, c1, a1⟩ := hc 1 _ rfl
    obtain ⟨v2, c2, a2⟩ := hc 2 _ rfl
    obtain ⟨v3, c3, a3⟩ := hc 3 _ rfl
    obtain ⟨v4, c4, a4⟩ := hc 4 _ rfl
    obtain ⟨v5, c5, a5⟩ := hc 5 _ rfl
    obtain ⟨v6, c6, a6⟩ := hc 6 _ rfl
    obtain ⟨i0, rfl⟩ := a0.num
    obtain ⟨s1, rfl⟩ := a1.str
    obtain ⟨i2, rfl⟩ := a2.num
    obtain ⟨s3, rfl⟩ := a3.str
    obtain ⟨s4, rfl⟩ := a4.str
    obtain rfl := a5.slc
    obtain rfl := a6.slc
    refine ⟨i0, s1, i2, s3, s4, na, l, nc, sa, m, sc, arr_seven hz c0 c1 c2 c3 c4 c5 c6, hl, hm, fun i hi => ?_, fun i hi => ?_⟩
    · obtain ⟨b, o, s, e1, e2, e3, e4⟩ := hn i hi
      obtain ⟨v, f1, f2⟩ := hs.cell _ _ e3
      obtain ⟨s', rfl⟩ := f2.str
      exact ⟨b, o, s', e1, e2, f1, by rw [hs.froz _ (World.block_lt_of_cell? w _ e3)]; exact e4⟩
    · obtain ⟨b, o, c, e1, e2, e3, e4, e5⟩ := hsub i hi
      have hcz : ∃ a0 a1 a2 a3 a4 a5 a6, c = #[a0, a1, a2, a3, a4, a5, a6] := by
        cases n with
        | zero => exact e5.elim
        | succ n =>
          obtain ⟨k', p', mj', md', nm', na', l', nc', sa', m', sc', rfl, -⟩ := e5
          exact ⟨_, _, _, _, _, _, _, rfl⟩
      obtain ⟨x0, x1, x2, x3, x4, x5, x6, rfl⟩ := hcz
      obtain ⟨y0, d0, g0⟩ := hs.cell _ _ ((e3 0 (by omega)).trans rfl)
      obtain ⟨y1, d1, g1⟩ := hs.cell _ _ ((e3 1 (by omega)).trans rfl)
      obtain ⟨y2, d2, g2⟩ := hs.cell _ _ ((e3 2 (by omega)).trans rfl)
      obtain ⟨y3, d3, g3⟩ := hs.cell _ _ ((e3 3 (by omega)).trans rfl)
      obtain ⟨y4, d4, g4⟩ := hs.cell _ _ ((e3 4 (by omega)).trans rfl)
      obtain ⟨y5, d5, g5⟩ := hs.cell _ _ ((e3 5 (by omega)).trans rfl)
      obtain ⟨y6, d6, g6⟩ := hs.cell _ _ ((e3 6 (by omega)).trans rfl)
      refine ⟨b, o, #[y0, y1, y2, y3, y4, y5, y6], e1, e2, fun j hj => ?_, ?_, Shp.move n e5 hs (fun j v hv => ?_) rfl⟩
      · match j, hj with
        | 0, _ => exact d0
        | 1, _ => exact d1
        | 2, _ => exact d2
        | 3, _ => exact d3
        | 4, _ => exact d4
        | 5, _ => exact d5
        | 6, _ => exact d6
      · rw [hs.froz _ (by have := World.block_lt_of_cell? w _ ((e3 0 (by omega)).trans rfl); exact this)]
        exact e4
      · match j with
        | 0 => exact ⟨y0, rfl, by cases hv; exact g0⟩
        | 1 => exact ⟨y1, rfl, by cases hv; exact g1⟩
        | 2 => exact ⟨y2, rfl, by cases hv; exact g2⟩
        | 3 => exact ⟨y3, rfl, by cases hv; exact g3⟩
        | 4 => exact ⟨y4, rfl, by cases hv; exact g4⟩
        | 5 => exact ⟨y5, rfl, by cases hv; exact g5⟩
        | 6 => exact ⟨y6, rfl, by cases hv; exact g6⟩
        | j + 7 => simp at hv
theorem Shp.later {n : Nat} {w w' : World} {B E : Nat} {cs : Array Value} (h : Shp n w B E cs) (hs : Sim w w') : Shp n w' B E cs := by
  refine Shp.move n h hs (fun j v hv => ⟨v, hv, .inl rfl⟩) ?_
  cases n with
  | zero => exact h.elim
  | succ n =>
    obtain ⟨k', p', mj', md', nm', na', l', nc', sa', m', sc', rfl, -⟩ := h
    rfl
theorem shp_of {w : World} {B E : Nat} : ∀ (n : Nat) (t : Ty) (cs : Array Value), TyM w (fun b => (B ≤ b ∧ b < E) ∧ Opn w b) t cs → deepT t ≤ n → mayT t = true → Shp n w B E cs
  | 0, t, _, _, hd, _ => by have := deep_bound t; omega
  | n + 1, t, cs, h, hd, hm => by
    obtain ⟨na, nc, sa, sc, f, rfl, hf, hn, hs, -, -, hsub⟩ := h.inv
    have hl := may_names hm
    have hsl := may_small hm
    refine ⟨t.kind, t.pkg, t.major, t.mod, t.name, na, t.names.length, nc, sa, t.subs.length, sc, rfl, by omega, by omega, fun i hi => ?_, fun i hi => ?_⟩
    · rcases hn with h0 | ⟨b, o, hA, ⟨hM, C, T, hb⟩, hc⟩
      · rw [h0] at hi; simp at hi
      · exact ⟨b, o, _, hA, hM, hc i hi, hb.free _⟩
    · rcases hs with h0 | ⟨b, o, hA, ⟨hM, C, T, hb⟩, hc⟩
      · omega
      · have h7 := (hsub i hi).size
        exact ⟨b, o, f i, hA, hM, fun j hj => hc i hi j (by omega), hb.free _, shp_of n _ _ (hsub i hi) (by have := deep_child (List.getElem_mem hi); omega) (may_child hm (List.getElem_mem hi))⟩
end Go.Proofs.Ytalpmjmifcofeaa
