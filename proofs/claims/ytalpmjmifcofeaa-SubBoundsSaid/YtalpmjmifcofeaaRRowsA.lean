/- What merlonref09.Bound's loops over names hold: the memory; the row of names. -/
import Derived.Test.YtalpmjmifcofeaaRPut
import Derived.Test.YtalpmjmifcofeaaRBnd
import Derived.Test.YtalpmjmifcofeaaPutLaw
import Derived.Test.YtalpmjmifcofeaaRefSubB
namespace Go.Proofs.Ytalpmjmifcofeaa
open Go.RowKit
set_option linter.unusedSimpArgs false
set_option linter.unusedVariables false
theorem pairs_tyOf (k : Int) (L : List (ByteArray × Ty)) : pairs (tyOf k L) = L := by
  unfold pairs tyOf
  show (L.map (·.1)).zip (L.map (·.2)) = L
  rw [List.zip_map']
  simp
theorem setRows_tyOf (k : Int) (L L' : List (ByteArray × Ty)) : setRows (tyOf k L) L' = tyOf k L' := rfl
/-- the boxes and the out type's memory -/
structure RMem (w wr : World) (a b : Ty) (na : Option Addr) (nc : Nat) (sa : Option Addr) (sc : Nat) (na' : Option Addr) (nc' : Nat) (sa' : Option Addr) (sc' : Nat) (B : Nat) (L : List (ByteArray × Ty)) (cs : Array Value) : Prop where
  below : Below w.heap.size w wr
  size : w.heap.size + 4 ≤ wr.heap.size
  boxa : Blk wr w.heap.size (tyCells a na nc sa sc) 25
  boxb : Blk wr (w.heap.size + 1) (tyCells b na' nc' sa' sc') 25
  res : Blk wr (w.heap.size + 1 + 1) #[.int .i64 0, .string { data := #[] }, .int .i64 0, .string { data := #[] }, .string { data := #[] }, .slice none 0 0, .slice none 0 0] 25
  out : Blk wr (w.heap.size + 1 + 1 + 1) cs 25
  ty : TyM wr (fun b => b < B ∨ (w.heap.size + 4 ≤ b ∧ b < wr.heap.size)) (tyOf a.kind L) cs
theorem RMem.under {w wr w2 : World} {a b : Ty} {na sa na' sa' : Option Addr} {nc sc nc' sc' B : Nat} {L : List (ByteArray × Ty)} {cs : Array Value} (h : RMem w wr a b na nc sa sc na' nc' sa' sc' B L cs) (hB : B ≤ w.heap.size) (hb : Below wr.heap.size wr w2) : RMem w w2 a b na nc sa sc na' nc' sa' sc' B L cs := by
  have s0 := h.size
  have s1 := hb.size
  have s2 := h.below.size
  refine ⟨acc0 h.below h.below.size hb, by omega, h.boxa.under hb h.boxa.lt, h.boxb.under hb h.boxb.lt, h.res.under hb h.res.lt, h.out.under hb h.out.lt, h.ty.move (fun b hM => ?_) (fun p hp => ?_)⟩
  · rcases hM with hM | hM
    · exact .inl hM
    · exact .inr ⟨hM.1, by omega⟩
  · rcases hp with hp | hp
    · exact hb.cell (by omega)
    · exact hb.cell hp.2
/-- behind put and the store of what it tells -/
theorem RMem.put {w wr w2 : World} {a b : Ty} {na sa na' sa' na2 sa2 : Option Addr} {nc sc nc' sc' nc2 sc2 B : Nat} {L L' : List (ByteArray × Ty)} {cs : Array Value} (h : RMem w wr a b na nc sa sc na' nc' sa' sc' B L cs) (hB : B ≤ w.heap.size) (hb : Below wr.heap.size wr w2)
    (ht : TyM w2 (fun b => (b < B ∨ (w.heap.size + 4 ≤ b ∧ b < wr.heap.size)) ∨ Fresh wr w2 b) (tyOf a.kind L') (tyCells (tyOf a.kind L') na2 nc2 sa2 sc2)) :
    RMem w (put7 w2 (w.heap.size + 1 + 1 + 1) 0 (.int .i64 a.kind) (.string { data := #[] }) (.int .i64 0) (.string { data := #[] }) (.string { data := #[] }) (.slice na2 L'.length nc2) (.slice sa2 L'.length sc2)) a b na nc sa sc na' nc' sa' sc' B L' (tyCells (tyOf a.kind L') na2 nc2 sa2 sc2) := by
  have s0 := h.size
  have s1 := hb.size
  have e : tyCells (tyOf a.kind L') na2 nc2 sa2 sc2 = #[.int .i64 a.kind, .string { data := #[] }, .int .i64 0, .string { data := #[] }, .string { data := #[] }, .slice na2 L'.length nc2, .slice sa2 L'.length sc2] := by
    simp [tyCells, tyOf, Ty.kind, Ty.pkg, Ty.major, Ty.mod, Ty.name, Ty.names, Ty.subs]
  obtain ⟨na3, nc3, sa3, sc3, f3, hcs, -⟩ := h.ty.inv
  have hout := h.out
  rw [hcs] at hout
  have hblk := put7_blk (o := 0) (.int .i64 a.kind) (.string { data := #[] }) (.int .i64 0) (.string { data := #[] }) (.string { data := #[] }) (.slice na2 L'.length nc2) (.slice sa2 L'.length sc2) (hout.under hb hout.lt)
  unfold tyCells at hblk
  rw [arr7_lit] at hblk
  rw [e]
  refine ⟨put7_below _ _ _ _ _ _ _ (acc0 h.below h.below.size hb) (by omega), by rw [put7_size]; omega, put7_far _ _ _ _ _ _ _ (h.boxa.under hb h.boxa.lt) (by omega), put7_far _ _ _ _ _ _ _ (h.boxb.under hb h.boxb.lt) (by omega), put7_far _ _ _ _ _ _ _ (h.res.under hb h.res.lt) (by omega), hblk, ?_⟩
  rw [e] at ht
  refine ht.move (fun b hM => ?_) (fun p hp => put7_cell _ _ _ _ _ _ _ ?_)
  · rw [put7_size]
    rcases hM with (hM | hM) | hM
    · exact .inl hM
    · exact .inr ⟨hM.1, by omega⟩
    · exact .inr ⟨by have := hM.1; omega, hM.2⟩
  · rcases hp with (hp | hp) | hp
    · omega
    · omega
    · have := hp.1; omega
/-- the row of names, so far: of those names n of which there is one, what g tells -/
structure RSt (L : List (ByteArray × Ty)) (D : ByteArray → Prop) (g : ByteArray → Option Ty) : Prop where
  rise : riseB (L.map (·.1)) = true
  mem : ∀ s t, (s, t) ∈ L ↔ D s ∧ g s = some t
theorem RSt.nil {D : ByteArray → Prop} (g : ByteArray → Option Ty) (hD : ∀ s, ¬ D s) : RSt [] D g := ⟨rfl, fun s t => ⟨fun h => (by cases h), fun h => absurd h.1 (hD s)⟩⟩
theorem RSt.put {L : List (ByteArray × Ty)} {D D' : ByteArray → Prop} {g : ByteArray → Option Ty} {s : ByteArray} {x : Ty} (h : RSt L D g) (hs : ¬ D s) (hg : g s = some x) (hD : ∀ n, D' n ↔ D n ∨ n = s) : RSt (putF s x L) D' g := by
  refine ⟨putF_rise s x L h.rise fun p hp e => ?_, fun n t => ?_⟩
  · obtain ⟨n, t⟩ := p
    dsimp only at e
    subst e
    exact hs ((h.mem _ _).1 hp).1
  · rw [putF_mem, h.mem, hD]
    constructor
    · rintro (e | ⟨h1, h2⟩)
      · cases e
        exact ⟨.inr rfl, hg⟩
      · exact ⟨.inl h1, h2⟩
    · rintro ⟨h1 | rfl, h2⟩
      · exact .inr ⟨h1, h2⟩
      · rw [hg] at h2
        cases h2
        exact .inl rfl
theorem RSt.skip {L : List (ByteArray × Ty)} {D D' : ByteArray → Prop} {g : ByteArray → Option Ty} {s : ByteArray} (h : RSt L D g) (hg : g s = none) (hD : ∀ n, D' n ↔ D n ∨ n = s) : RSt L D' g := by
  refine ⟨h.rise, fun n t => ?_⟩
  rw [h.mem, hD]
  constructor
  · exact fun ⟨h1, h2⟩ => ⟨.inl h1, h2⟩
  · rintro ⟨h1 | rfl, h2⟩
    · exact ⟨h1, h2⟩
    · rw [hg] at h2; cases h2
/-- at the end: the same type as any other that has the same of each name -/
theorem RSt.desc {L : List (ByteArray × Ty)} {D : ByteArray → Prop} {g : ByteArray → Option Ty} (h : RSt L D g) (k : Int) {g' : ByteArray → Option Ty} (hg : ∀ s t, (D s ∧ g s = some t) ↔ g' s = some t) : Desc (tyOf k L) g' :=
  desc_list k h.rise fun s t => (h.mem s t).trans (hg s t)
theorem RMem.start {w W : World} {a b : Ty} {na sa na' sa' : Option Addr} {nc sc nc' sc' B : Nat} (x0 : Blk W w.heap.size (tyCells a na nc sa sc) 25) (x1 : Blk W (w.heap.size + 1) (tyCells b na' nc' sa' sc') 25)
    (x2 : Blk W (w.heap.size + 1 + 1) #[.int .i64 0, .string { data := #[] }, .int .i64 0, .string { data := #[] }, .string { data := #[] }, .slice none 0 0, .slice none 0 0] 25)
    (x3 : Blk W (w.heap.size + 1 + 1 + 1) #[.int .i64 a.kind, .string { data := #[] }, .int .i64 0, .string { data := #[] }, .string { data := #[] }, .slice none 0 0, .slice none 0 0] 25)
    (xs : W.heap.size = w.heap.size + 4) (xb : Below w.heap.size w W) (hf : Fits a) :
    RMem w W a b na nc sa sc na' nc' sa' sc' B [] #[.int .i64 a.kind, .string { data := #[] }, .int .i64 0, .string { data := #[] }, .string { data := #[] }, .slice none 0 0, .slice none 0 0] := by
  refine ⟨xb, by omega, x0, x1, x2, x3, ?_⟩
  have hfit : Fits (tyOf a.kind []) := ⟨hf.kind, by simp [tyOf, Ty.major], Nat.zero_le _, Nat.zero_le _, Nat.zero_le _, by simp [tyOf, Ty.names], by simp [tyOf, Ty.names], by simp [tyOf, Ty.subs]⟩
  have := TyM.mk (w := W) (M := fun b => b < B ∨ (w.heap.size + 4 ≤ b ∧ b < W.heap.size)) (tyOf a.kind []) none 0 none 0 (fun _ => #[]) hfit (.inl rfl) (.inl rfl) (Nat.le_refl _) (Nat.le_refl _) (fun i hi => by simp [tyOf, Ty.subs] at hi)
  exact this
/-- what is told of a name of the first type -/
def gA (r : Ty → Ty → Option Ty) (a b : Ty) (al : Bool) (s : ByteArray) : Option Ty := if memB s b.names then r (ofT a s) (ofT b s) else if al then some (ofT a s) else none
theorem take_mem_succ {l : List ByteArray} {k : Nat} (h : k < l.length) (n : ByteArray) : n ∈ l.take (k + 1) ↔ n ∈ l.take k ∨ n = l[k] := by
  rw [List.take_succ_eq_append_getElem h, List.mem_append, List.mem_singleton]
theorem take_fresh {l : List ByteArray} (hr : riseB l = true) {k : Nat} (h : k < l.length) : ¬ l[k] ∈ l.take k := by
  intro hm
  obtain ⟨i, hi, e⟩ := List.getElem_of_mem hm
  rw [List.length_take] at hi
  rw [List.getElem_take] at e
  have := rise_inj hr (by omega) h e
  omega
/-- behind loop 2: of the second type's names too -/
def gB (r : Ty → Ty → Option Ty) (a b : Ty) (al : Bool) (s : ByteArray) : Option Ty := if memB s a.names then gA r a b al s else some (ofT b s)
/-- the names that are in the row behind k rounds of loop 3 -/
def DB (a b : Ty) (al : Bool) (k : Nat) (n : ByteArray) : Prop := n ∈ a.names ∨ (al = true ∧ n ∈ b.names.take k)
/-- so far there is something of each name -/
def AllA (r : Ty → Ty → Option Ty) (a b : Ty) (al : Bool) (k : Nat) : Prop := al = true → ∀ s, s ∈ a.names.take k → (gA r a b al s).isSome = true
def rowsR (r : Ty → Ty → Option Ty) (a b : Ty) (al : Bool) : Option Ty := if al = true then eitherR r a b else if a.kind = 6 ∧ (joinR r a b).names.length = 0 then none else some (joinR r a b)
theorem gA_hit {r : Ty → Ty → Option Ty} {a b : Ty} {al : Bool} (hra : RowsOk a) (hrb : RowsOk b) {k : Nat} (h : k < a.names.length) (h' : k < a.subs.length) (hm : memB a.names[k] b.names = true) {j : Nat} (hj : firstOf b.names a.names[k] = j) (hj' : j < b.subs.length) : gA r a b al a.names[k] = r a.subs[k] b.subs[j] := by
  subst hj
  rw [gA, if_pos hm, ofT_get hra.rise hra.len h, ofT_at hm hj']
theorem gA_miss {r : Ty → Ty → Option Ty} {a b : Ty} {al : Bool} (hra : RowsOk a) {k : Nat} (h : k < a.names.length) (h' : k < a.subs.length) (hm : memB a.names[k] b.names = false) : gA r a b al a.names[k] = if al then some a.subs[k] else none := by
  rw [gA, if_neg (by simp [hm]), ofT_get hra.rise hra.len h]
theorem RSt.second {L : List (ByteArray × Ty)} {r : Ty → Ty → Option Ty} {a b : Ty} {al : Bool} (h : RSt L (fun n => n ∈ a.names.take a.names.length) (gA r a b al)) : RSt L (DB a b al 0) (gB r a b al) := by
  refine ⟨h.rise, fun s t => ?_⟩
  rw [h.mem, List.take_length]
  unfold gB DB
  rw [List.take_zero]
  constructor
  · rintro ⟨h1, h2⟩
    exact ⟨.inl h1, by rw [if_pos ((memB_iff _ _).2 h1)]; exact h2⟩
  · rintro ⟨h1 | ⟨-, h1⟩, h2⟩
    · rw [if_pos ((memB_iff _ _).2 h1)] at h2
      exact ⟨h1, h2⟩
    · cases h1
theorem RSt.putB {L : List (ByteArray × Ty)} {r : Ty → Ty → Option Ty} {a b : Ty} {al : Bool} {k : Nat} (hrb : RowsOk b) (hlt : k < b.names.length) (hlt' : k < b.subs.length) (h : RSt L (DB a b al k) (gB r a b al)) (hal : al = true) (hm : memB b.names[k] a.names = false) :
    RSt (putF b.names[k] b.subs[k] L) (DB a b al (k + 1)) (gB r a b al) := by
  have hna : ¬ b.names[k] ∈ a.names := fun hh => by rw [(memB_iff _ _).2 hh] at hm; cases hm
  refine h.put ?_ ?_ fun n => ?_
  · rintro (h1 | ⟨-, h1⟩)
    · exact hna h1
    · exact take_fresh hrb.rise hlt h1
  · rw [gB, if_neg (by simp [hm]), ofT_get hrb.rise hrb.len hlt]
  · unfold DB
    rw [take_mem_succ hlt]
    simp only [hal, true_and]
    rw [or_assoc]
theorem RSt.skipB {L : List (ByteArray × Ty)} {r : Ty → Ty → Option Ty} {a b : Ty} {al : Bool} {k : Nat} (hlt : k < b.names.length) (h : RSt L (DB a b al k) (gB r a b al)) (hm : al = true → memB b.names[k] a.names = true) :
    RSt L (DB a b al (k + 1)) (gB r a b al) := by
  refine ⟨h.rise, fun s t => ?_⟩
  rw [h.mem]
  unfold DB
  rw [take_mem_succ hlt]
  constructor
  · rintro ⟨h1 | ⟨h0, h1⟩, h2⟩
    · exact ⟨.inl h1, h2⟩
    · exact ⟨.inr ⟨h0, .inl h1⟩, h2⟩
  · rintro ⟨h1 | ⟨h0, h1 | rfl⟩, h2⟩
    · exact ⟨.inl h1, h2⟩
    · exact ⟨.inr ⟨h0, h1⟩, h2⟩
    · exact ⟨.inl ((memB_iff _ _).1 (hm h0)), h2⟩
theorem RSt.fin {L : List (ByteArray × Ty)} {r : Ty → Ty → Option Ty} {a b : Ty} {al : Bool} (hra : RowsOk a) (hna : a.names.length = a.subs.length) (h : RSt L (DB a b al b.names.length) (gB r a b al)) (hall : AllA r a b al a.names.length)
    (hk : a.kind = 5 ∨ (a.kind = 6 ∧ 0 < a.names.length)) :
    (rowsR r a b al).isSome = (decide (a.kind = 5) || decide (0 < L.length)) ∧ ∀ x, rowsR r a b al = some x → tyOf a.kind L = x := by
  cases al with
  | false =>
    have hd : Desc (tyOf a.kind L) (bothG r a b) := h.desc a.kind fun s t => by
      unfold bothG gB gA DB
      by_cases ha : memB s a.names = true
      · have := (memB_iff _ _).1 ha
        by_cases hb : memB s b.names = true
        · simp [ha, hb, this]
        · simp [ha, hb]
      · have : ¬ s ∈ a.names := fun hh => ha ((memB_iff _ _).2 hh)
        simp [ha, this]
    have he := Desc.uniq hd (join_desc (r := r) (a := a) (b := b) hra.rise hra.len)
    have e : tyOf a.kind L = joinR r a b := by
      have e1 : L.map (·.1) = (bothL r b a.names a.subs).map (·.1) := he.1
      have e2 : L.map (·.2) = (bothL r b a.names a.subs).map (·.2) := he.2
      unfold tyOf joinR
      rw [e1, e2]
    have hl : (joinR r a b).names.length = L.length := by rw [← e]; simp [tyOf, Ty.names]
    unfold rowsR
    rw [if_neg (by simp), hl]
    refine ⟨?_, fun x hx => ?_⟩
    · rcases hk with hk | ⟨hk, -⟩
      · simp [hk]
      · by_cases h0 : L.length = 0
        · simp [hk, h0]
        · have : 0 < L.length := by omega
          simp [hk, h0, this]
    · rw [e]
      split at hx
      · cases hx
      · exact Option.some.inj hx
  | true =>
    have hE : ∀ s, s ∈ a.names ∨ s ∈ b.names → gB r a b true s = eithE r a b s ∧ (eithE r a b s).isSome = true := by
      intro s hs
      unfold gB eithE
      by_cases ha : memB s a.names = true
      · have h1 := hall rfl s (by rw [List.take_length]; exact (memB_iff _ _).1 ha)
        unfold gA at h1 ⊢
        by_cases hb : memB s b.names = true
        · simp only [ha, hb, if_true] at h1 ⊢
          exact ⟨trivial, h1⟩
        · simp only [ha, hb, if_true] at h1 ⊢
          exact ⟨trivial, by simp⟩
      · have hb : memB s b.names = true := by
          rcases hs with hs | hs
          · exact absurd ((memB_iff _ _).2 hs) ha
          · exact (memB_iff _ _).2 hs
        simp [ha, hb]
    obtain ⟨x, hx⟩ := eith_all fun s hs => (hE s hs).2
    have hd : Desc (tyOf a.kind L) (eithH r a b) := h.desc a.kind fun s t => by
      unfold eithH DB
      rw [List.take_length]
      constructor
      · rintro ⟨h1, h2⟩
        have h1' : s ∈ a.names ∨ s ∈ b.names := h1.imp id And.right
        rw [if_pos (by simpa [memB_iff] using h1'), ← (hE s h1').1]
        exact h2
      · intro h2
        split at h2
        · rename_i hm
          have h1 : s ∈ a.names ∨ s ∈ b.names := by simpa [memB_iff] using hm
          exact ⟨h1.imp id fun q => ⟨rfl, q⟩, by rw [(hE s h1).1]; exact h2⟩
        · cases h2
    obtain ⟨hdx, hmem⟩ := eith_desc hx
    have he := Desc.uniq hd hdx
    obtain ⟨L', rfl, -⟩ := eith_some hx
    have e : tyOf a.kind L = tyOf a.kind L' := by
      have e1 : L.map (·.1) = L'.map (·.1) := he.1
      have e2 : L.map (·.2) = L'.map (·.2) := he.2
      unfold tyOf
      rw [e1, e2]
    unfold rowsR
    rw [if_pos rfl, hx]
    refine ⟨?_, fun y hy => e.trans (Option.some.inj hy)⟩
    rcases hk with hk | ⟨hk, h0⟩
    · simp [hk]
    · have : 0 < L.length := by
        have h1 := hmem _ (.inl (List.getElem_mem h0))
        have h2 : a.names[0] ∈ L'.map (·.1) := h1
        rw [← show L.map (·.1) = L'.map (·.1) from he.1] at h2
        have := List.length_pos_of_mem h2
        simpa using this
      simp [this]
theorem RMem.form {w wr : World} {a b : Ty} {na sa na' sa' : Option Addr} {nc sc nc' sc' B : Nat} {L : List (ByteArray × Ty)} {cs : Array Value} (h : RMem w wr a b na nc sa sc na' nc' sa' sc' B L cs) : ∃ na3 nc3 sa3 sc3, cs = #[.int .i64 a.kind, .string { data := #[] }, .int .i64 0, .string { data := #[] }, .string { data := #[] }, .slice na3 L.length nc3, .slice sa3 L.length sc3] := by
  obtain ⟨na3, nc3, sa3, sc3, f3, hcs, -⟩ := h.ty.inv
  exact ⟨na3, nc3, sa3, sc3, by rw [hcs]; simp [tyCells, tyOf, Ty.kind, Ty.pkg, Ty.major, Ty.mod, Ty.name, Ty.names, Ty.subs]⟩
/-- the call of put, and the memory behind the store of what it tells -/
theorem RMem.putc {w wr : World} {a b : Ty} {na sa na' sa' : Option Addr} {nc sc nc' sc' B : Nat} {L : List (ByteArray × Ty)} {cs : Array Value} (h : RMem w wr a b na nc sa sc na' nc' sa' sc' B L cs) (hB : B ≤ w.heap.size) (hfa : Fits a) (hL : L.length ≤ 90) {s : ByteArray} {x : Ty} {cx : Array Value} (hs : s.size ≤ maxLen)
    (hx : TyM wr (fun b => b < B ∨ (w.heap.size + 4 ≤ b ∧ b < wr.heap.size)) x cx) :
    Calls Try.prog 40 #[.agg cs, .string s, .agg cx] wr.drew fun e w2 => ∃ na2 nc2 sa2 sc2, e = .returned (.agg #[.int .i64 a.kind, .string { data := #[] }, .int .i64 0, .string { data := #[] }, .string { data := #[] }, .slice na2 (putF s x L).length nc2, .slice sa2 (putF s x L).length sc2]) ∧ Below wr.heap.size wr w2 ∧
      RMem w (((((((w2.setCell ⟨w.heap.size + 1 + 1 + 1, 0, none⟩ (.int .i64 a.kind)).setCell ⟨w.heap.size + 1 + 1 + 1, 1, none⟩ (.string { data := #[] })).setCell ⟨w.heap.size + 1 + 1 + 1, 2, none⟩ (.int .i64 0)).setCell ⟨w.heap.size + 1 + 1 + 1, 3, none⟩ (.string { data := #[] })).setCell ⟨w.heap.size + 1 + 1 + 1, 4, none⟩ (.string { data := #[] })).setCell ⟨w.heap.size + 1 + 1 + 1, 5, none⟩ (.slice na2 (putF s x L).length nc2)).setCell ⟨w.heap.size + 1 + 1 + 1, 6, none⟩ (.slice sa2 (putF s x L).length sc2)) a b na nc sa sc na' nc' sa' sc' B (putF s x L) #[.int .i64 a.kind, .string { data := #[] }, .int .i64 0, .string { data := #[] }, .string { data := #[] }, .slice na2 (putF s x L).length nc2, .slice sa2 (putF s x L).length sc2] := by
  have hfit : Fits (tyOf a.kind L) := by
    obtain ⟨_, _, _, _, _, _, hf, -⟩ := h.ty.inv
    exact hf
  have hlen := putF_len s x L
  have hmx : 92 ≤ maxLen := by decide
  have hfit' : Fits (tyOf a.kind (putF s x L)) := by
    refine ⟨hfa.kind, by simp [tyOf, Ty.major], Nat.zero_le _, Nat.zero_le _, Nat.zero_le _, by simp [tyOf, Ty.names]; omega, fun n hn => ?_, by simp [tyOf, Ty.subs]; omega⟩
    have hn' : n ∈ (putF s x L).map (·.1) := hn
    obtain ⟨p, hp, rfl⟩ := List.mem_map.1 hn'
    rcases (putF_mem s x L p).1 hp with rfl | hp
    · exact hs
    · exact hfit.each p.1 (List.mem_map.2 ⟨p, hp, rfl⟩)
  have e0 : setRows (tyOf a.kind L) (putF s x (pairs (tyOf a.kind L))) = tyOf a.kind (putF s x L) := by rw [pairs_tyOf]; rfl
  have s0 := h.size
  refine (put_c (tyOf a.kind L) x s cs cx (fun b => b < B ∨ (w.heap.size + 4 ≤ b ∧ b < wr.heap.size)) wr.drew (h.ty.keep fun _ _ => rfl) (hx.keep fun _ _ => rfl) (fun b hb => by
    show b < wr.heap.size
    rcases hb with hb | hb
    · omega
    · exact hb.2) (by simp [tyOf, Ty.names, Ty.subs]) (by simp [tyOf, Ty.names]; omega) (by rw [e0]; exact hfit')).mono ?_
  rintro e w2 ⟨⟨cs2, rfl, ht⟩, hb⟩
  rw [e0] at ht
  obtain ⟨na2, nc2, sa2, sc2, f2, rfl, -⟩ := ht.inv
  have hb' : Below wr.heap.size wr w2 := (Below.refl _ _).drew.trans hb
  have e : tyCells (tyOf a.kind (putF s x L)) na2 nc2 sa2 sc2 = #[.int .i64 a.kind, .string { data := #[] }, .int .i64 0, .string { data := #[] }, .string { data := #[] }, .slice na2 (putF s x L).length nc2, .slice sa2 (putF s x L).length sc2] := by
    simp [tyCells, tyOf, Ty.kind, Ty.pkg, Ty.major, Ty.mod, Ty.name, Ty.names, Ty.subs]
  have hq := h.put hB hb' (na2 := na2) (nc2 := nc2) (sa2 := sa2) (sc2 := sc2) (L' := putF s x L) ht
  rw [put7_zero, e] at hq
  exact ⟨na2, nc2, sa2, sc2, by rw [e], hb', hq⟩
theorem putF_two {s : ByteArray} {x : Ty} {L : List (ByteArray × Ty)} {k : Nat} (h : L.length ≤ 2 * k) : (putF s x L).length ≤ 2 * (k + 1) := by
  have := putF_len s x L
  omega
theorem all_succ {r : Ty → Ty → Option Ty} {a b : Ty} {al : Bool} {k : Nat} (hlt : k < a.names.length) (h : AllA r a b al k) (hx : al = true → (gA r a b al a.names[k]).isSome = true) : AllA r a b al (k + 1) := by
  intro hal s hs
  rcases (take_mem_succ hlt s).1 hs with hs | rfl
  · exact h hal s hs
  · exact hx hal
theorem rowsR_none {r : Ty → Ty → Option Ty} {a b : Ty} {s : ByteArray} (hs : s ∈ a.names) (hm : memB s b.names = true) (hg : gA r a b true s = none) : rowsR r a b true = none := by
  unfold rowsR
  rw [if_pos rfl]
  refine eitherR_none r a b s ((unionN_mem _ _ _).2 (.inl hs)) ?_
  unfold eithE
  rw [if_pos hm, if_pos ((memB_iff _ _).2 hs)]
  rwa [gA, if_pos hm] at hg
theorem rmem_last {w wr : World} {a b : Ty} {na sa na' sa' : Option Addr} {nc sc nc' sc' B : Nat} {L : List (ByteArray × Ty)} {cs : Array Value} {v0 v1 v2 v3 v4 v5 v6 : Value} (h : RMem w wr a b na nc sa sc na' nc' sa' sc' B L cs) (hB : B ≤ w.heap.size) :
    TyM (put7 wr (w.heap.size + 1 + 1) 0 v0 v1 v2 v3 v4 v5 v6) (fun b => b < B ∨ Fresh w (put7 wr (w.heap.size + 1 + 1) 0 v0 v1 v2 v3 v4 v5 v6) b) (tyOf a.kind L) cs := by
  have s0 := h.size
  refine h.ty.move (fun b hb => ?_) (fun q hq => put7_cell _ _ _ _ _ _ _ ?_)
  · rcases hb with hb | hb
    · exact .inl hb
    · exact .inr ⟨by omega, by rw [put7_size]; exact hb.2⟩
  · rcases hq with hq | hq
    · omega
    · omega
theorem all_none {r : Ty → Ty → Option Ty} {a b : Ty} {k : Nat} : AllA r a b false k := fun h => by cases h
theorem all_zero {r : Ty → Ty → Option Ty} {a b : Ty} {al : Bool} : AllA r a b al 0 := fun _ s h => by simp at h
end Go.Proofs.Ytalpmjmifcofeaa
