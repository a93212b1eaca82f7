/- What manifest.Parse holds behind its first loop, from call to call. -/
import Derived.Test.YtlpgkldialmofaaGreatDoorParM1
namespace Go.Proofs.YtlpgkldialmofaaGreatDoor
open Go.RowKit
set_option linter.unusedSimpArgs false
set_option linter.unusedVariables false
/-- the cells of a manifest that is being made -/
def mCells (p : ByteArray) (v1 v2 v3 : Int) (sv : Value) : Array Value := #[.string p, .int .i64 v1, .int .i64 v2, .int .i64 v3, sv]
def depFlat (ds : List Dp) : List Value := ds.flatMap fun d => (depV d.1 d.2).toList
structure ParSt (w : World) (g gm N : Nat) (wx : World) (ts : List ByteArray) (p : ByteArray) (v1 v2 v3 : Int) (sv : Value) (ds : List Dp) : Prop where
  below : Below w.heap.size w wx
  max : MaxW wx
  zero : Blk wx w.heap.size #[.string { data := #[] }, .int .i64 0, .int .i64 0, .int .i64 0, .slice none 0 0] 27
  man : Blk wx gm (mCells p v1 v2 v3 sv) 27
  words : WordsAt wx g N ts
  row : wx.ownsRow (gm + 1) 41 7 sv ds.length (depFlat ds)
  wg : w.heap.size < g
  ggm : g < gm
  nm : N ≤ gm
theorem ParSt.gsize {w wx : World} {g gm N : Nat} {ts : List ByteArray} {p : ByteArray} {v1 v2 v3 : Int} {sv : Value} {ds : List Dp} (h : ParSt w g gm N wx ts p v1 v2 v3 sv ds) : g < wx.heap.size := Nat.lt_trans h.ggm h.man.lt
theorem maxG_lt {w : World} (h : MaxW w) : 1 < w.heap.size := by
  obtain ⟨m, hm⟩ := h
  exact World.block_lt_of_cell? w _ hm
/-- behind a call that writes block g alone -/
theorem ParSt.call {w wx wy : World} {g gm N : Nat} {ts ts' : List ByteArray} {p : ByteArray} {v1 v2 v3 : Int} {sv : Value} {ds : List Dp} (h : ParSt w g gm N wx ts p v1 v2 v3 sv ds) (hm : MaxW w) (hw : WordsAt wy g N ts') (hb : Below g wx wy) (ha : Aside g wx wy) : ParSt w g gm N wy ts' p v1 v2 v3 sv ds where
  below := h.below.trans (hb.mono (Nat.le_of_lt h.wg))
  max := maxW_aside h.max ha (by have := maxG_lt hm; have := h.wg; omega)
  zero := h.zero.aside ha (Nat.ne_of_lt h.wg)
  man := h.man.aside ha (Nat.ne_of_gt h.ggm)
  words := hw
  row := owns_keep h.row fun b hb => ha.block b (owns_lt h.row hb).2 (by have := (owns_lt h.row hb).1; have := h.ggm; omega)
  wg := h.wg
  ggm := h.ggm
  nm := h.nm
/-- behind a call that writes nothing that was there -/
theorem ParSt.quiet {w wx wy : World} {g gm N : Nat} {ts : List ByteArray} {p : ByteArray} {v1 v2 v3 : Int} {sv : Value} {ds : List Dp} (h : ParSt w g gm N wx ts p v1 v2 v3 sv ds) (hb : Below wx.heap.size wx wy) : ParSt w g gm N wy ts p v1 v2 v3 sv ds where
  below := acc0 h.below h.below.size hb
  max := h.max.below hb
  zero := h.zero.under hb h.zero.lt
  man := h.man.under hb h.man.lt
  words := h.words.of hb
  row := owns_under h.row hb
  wg := h.wg
  ggm := h.ggm
  nm := h.nm
theorem ParSt.alloc {w wx : World} {g gm N : Nat} {ts : List ByteArray} {p : ByteArray} {v1 v2 v3 : Int} {sv : Value} {ds : List Dp} (h : ParSt w g gm N wx ts p v1 v2 v3 sv ds) (o : Obj) : ParSt w g gm N (wx.alloc o) ts p v1 v2 v3 sv ds := h.quiet ((Below.refl _ _).alloc (Nat.le_refl _) o)
/-- behind a store into the manifest that is being made -/
theorem ParSt.put {w wx : World} {g gm N : Nat} {ts : List ByteArray} {p : ByteArray} {v1 v2 v3 : Int} {sv : Value} {ds : List Dp} (h : ParSt w g gm N wx ts p v1 v2 v3 sv ds) (j : Nat) (x : Value) {p' : ByteArray} {u1 u2 u3 : Int} (hc : (mCells p v1 v2 v3 sv).setIfInBounds j x = mCells p' u1 u2 u3 sv) : ParSt w g gm N (wx.setCell ⟨gm, j, none⟩ x) ts p' u1 u2 u3 sv ds where
  below := h.below.setCell (p := ⟨gm, j, none⟩) (by have := h.wg; have := h.ggm; simp only; omega) _
  max := by
    obtain ⟨m, hm⟩ := h.max
    refine ⟨m, ?_⟩
    have hl := maxG_lt h.max
    have : (1 : Nat) ≠ gm := by
      intro e
      have h2 := h.man
      rw [← e] at h2
      have h3 := h2.cell 0
      rw [hm] at h3
      simp [mCells] at h3
    unfold World.cell? at hm ⊢
    rw [Below.heap_setCell wx ⟨gm, j, none⟩ x _ this]
    exact hm
  zero := h.zero.far ⟨gm, j, none⟩ x (by have := h.wg; have := h.ggm; simp only; omega)
  man := by rw [← hc]; exact h.man.set j x
  words := h.words.far h.nm (Nat.ne_of_lt h.ggm) j x
  row := owns_keep h.row fun b hb => Below.heap_setCell wx ⟨gm, j, none⟩ x b (by have := (owns_lt h.row hb).1; simp only; omega)
  wg := h.wg
  ggm := h.ggm
  nm := h.nm
theorem depFlat_push (ds : List Dp) (d : Dp) : depFlat (ds ++ [d]) = depFlat ds ++ (depV d.1 d.2).toList := by simp [depFlat]
/-- behind a dep that is appended -/
theorem ParSt.push {w wx wz wy : World} {g gm N : Nat} {ts : List ByteArray} {p : ByteArray} {v1 v2 v3 : Int} {sv v' : Value} {ds : List Dp} {d : Dp} (h : ParSt w g gm N wx ts p v1 v2 v3 sv ds) (hm : MaxW w) (hb : Below wx.heap.size wx wz)
    (hown : wy.ownsRow (gm + 1) 41 7 v' (ds.length + 1) (depFlat ds ++ (depV d.1 d.2).toList)) (hg : wz.grownBy wy sv.ownBlock) : ParSt w g gm N (wy.setCell ⟨gm, 4, none⟩ v') ts p v1 v2 v3 v' (ds ++ [d]) := by
  have hz := h.quiet hb
  have hself : ∀ b, sv.ownBlock = some b → gm + 1 ≤ b := fun b hb' => (owns_lt hz.row hb').1
  have hkeep : ∀ b, b < wz.heap.size → b ≤ gm → wy.heap[b]? = wz.heap[b]? := fun b hlt hle => hg.block b hlt (fun e => by have := hself b e.symm; omega)
  have hset : ∀ b, b ≠ gm → (wy.setCell ⟨gm, 4, none⟩ v').heap[b]? = wy.heap[b]? := fun b hne => Below.heap_setCell wy ⟨gm, 4, none⟩ v' b (by simpa using hne)
  have hwg := h.wg
  have hgg := h.ggm
  have hML := maxG_lt hm
  have hzl : gm < wz.heap.size := hz.man.lt
  have hmanY : Blk wy gm (mCells p v1 v2 v3 sv) 27 := (hkeep gm hzl (Nat.le_refl _)).trans hz.man
  refine { below := ?_, max := ?_, zero := ?_, man := ?_, words := ?_, row := ?_, wg := hwg, ggm := hgg, nm := h.nm }
  · exact (hz.below.grown hg (by omega) (fun b hb' => by have := hself b hb'; omega)).setCell (p := ⟨gm, 4, none⟩) (by simp only; omega) _
  · obtain ⟨m, hmm⟩ := hz.max
    refine ⟨m, ?_⟩
    unfold World.cell? at hmm ⊢
    rw [hset _ (by simp only; omega), hkeep _ (by simp only; omega) (by simp only; omega)]
    exact hmm
  · exact ((hset _ (by omega)).trans (hkeep _ (by omega) (by omega))).trans hz.zero
  · exact hmanY.set 4 v'
  · obtain ⟨A, cap, e1, e2, e3, e4⟩ := hz.words
    refine ⟨A, cap, ((hset _ (by omega)).trans (hkeep _ (by omega) (by omega))).trans e1, e2, e3, ?_⟩
    rcases e4 with e4 | ⟨b, o, e5, e6, e7⟩
    · exact .inl e4
    · refine .inr ⟨b, o, e5, e6, fun i hi => ?_⟩
      have hc := e7 i hi
      have hbl := World.block_lt_of_cell? wz _ hc
      simp only at hbl
      have := h.nm
      unfold World.cell? at hc ⊢
      simp only at hc ⊢
      rw [hset _ (by omega), hkeep _ hbl (by omega)]
      exact hc
  · rw [List.length_append, depFlat_push]
    exact owns_keep hown fun b hb' => hset b (by have := (owns_lt hown hb').1; omega)
/-- how many texts are left, off the cell -/
def cellLen (w : World) (g : Nat) : Nat := match w.cell? ⟨g, 0, none⟩ with
  | some (.slice _ n _) => n
  | _ => 0
theorem cellLen_of {w : World} {g N : Nat} {ts : List ByteArray} (h : WordsAt w g N ts) : cellLen w g = ts.length := by
  obtain ⟨A, cap, h1, -⟩ := h
  have := h1.cell 0
  simp at this
  rw [cellLen, this]
theorem scan_texts (s : ByteArray) : ∀ (f k : Nat) (ts : List Tok), (∀ t ∈ ts, t.text.size ≤ s.size) → ∀ t ∈ (scan s f k ts).1, t.text.size ≤ s.size
  | 0, _, ts, h => h
  | f + 1, k, ts, h => by
    rw [scan]
    split
    · split
      · exact h
      · exact scan_texts s f _ _ h
      · refine scan_texts s f _ _ fun t ht => ?_
        rcases List.mem_append.1 ht with ht | ht
        · exact h t ht
        · simp at ht
          subst ht
          simp
          omega
    · exact h
theorem texts_le {s : ByteArray} {ts : List Tok} {o : Option Nat} (h : scanAll s = (ts, o)) : ∀ t ∈ ts.map Tok.text, t.size ≤ s.size := by
  intro x hx
  obtain ⟨t, ht, rfl⟩ := List.mem_map.1 hx
  have := scan_texts s s.size 0 [] (fun _ h => by cases h) t
  rw [show scan s s.size 0 [] = (ts, o) from h] at this
  exact this ht
theorem catL_le {B : Nat} : ∀ (xs : List ByteArray), (∀ t ∈ xs, t.size ≤ B) → (catL xs).length ≤ xs.length * B
  | [], _ => by simp [catL]
  | x :: xs, h => by
    have ih := catL_le xs (fun t ht => h t (by simp [ht]))
    have h1 := h x (by simp)
    rw [catL_cons, List.length_append, len_dataV, List.length_cons, Nat.add_mul, Nat.one_mul]
    omega
theorem nextF_off {p : ByteArray → Bool} {ts : List ByteArray} (h : (nextF p ts).1.2 = false) : (nextF p ts).2 = ts := by
  cases ts with
  | nil => rfl
  | cons t r =>
    rw [nextF] at h ⊢
    split at h
    · cases h
    · rename_i h'
      rw [if_neg h']
theorem nextF_on {p : ByteArray → Bool} {ts : List ByteArray} (h : (nextF p ts).1.2 = true) : (nextF p ts).2.length + 1 = ts.length := by
  cases ts with
  | nil => cases h
  | cons t r =>
    rw [nextF] at h ⊢
    split at h
    · rename_i h'
      rw [if_pos h']; rfl
    · cases h
theorem depF_len (ts : List ByteArray) : (depF ts).2.2.2.length ≤ ts.length ∧ (catL (depF ts).2.2.2).length ≤ (catL ts).length ∧ ∀ t ∈ (depF ts).2.2.2, t ∈ ts := by
  have h := nextF_len Idn.smallB ts
  have h2 := catL_drop (nextF Idn.smallB ts).2 11
  refine ⟨?_, ?_, fun t ht => h.2.2 t (List.mem_of_mem_drop ht)⟩
  · simp only [depF, List.length_drop]; omega
  · simp only [depF]; omega
theorem depsF_stop {fine : Bool} {us : List ByteArray} (ds : List Dp) (k : Nat) (h : (fine && (nextF (keyP kDep) us).1.2) = false) : depsF k fine us ds = (fine, us, ds) ∧ (if fine = true then (nextF (keyP kDep) us).2 else us) = us := by
  cases fine with
  | false => exact ⟨by cases k <;> rfl, rfl⟩
  | true =>
    simp at h
    refine ⟨?_, by rw [if_pos rfl, nextF_off h]⟩
    cases k with
    | zero => rfl
    | succ k => rw [depsF, if_pos rfl, if_neg (by rw [h]; decide)]
theorem depsF_go {fine : Bool} {us : List ByteArray} (ds : List Dp) (k : Nat) (h : (fine && (nextF (keyP kDep) us).1.2) = true) (hk : us.length ≤ k) : ∃ k' r, fine = true ∧ k = k' + 1 ∧ (if fine = true then (nextF (keyP kDep) us).2 else us) = r ∧ r.length + 1 = us.length ∧ (catL r).length ≤ (catL us).length ∧ (∀ t ∈ r, t ∈ us) ∧
    depsF k fine us ds = depsF k' (depF r).2.2.1 (depF r).2.2.2 (ds ++ [((depF r).1, (depF r).2.1)]) := by
  cases fine with
  | false => cases h
  | true =>
    simp at h
    have h1 := nextF_on h
    have h2 := nextF_len (keyP kDep) us
    cases k with
    | zero => omega
    | succ k =>
      refine ⟨k, _, rfl, rfl, if_pos rfl, h1, h2.2.1, h2.2.2, ?_⟩
      rw [depsF, if_pos rfl, if_pos h]
end Go.Proofs.YtlpgkldialmofaaGreatDoor
