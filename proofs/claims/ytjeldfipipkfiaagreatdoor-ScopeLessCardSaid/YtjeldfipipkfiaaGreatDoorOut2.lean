/- The two rows that a call of its own gathers: names and types. Plain Lean; no condition. -/
import Derived.Test.YtjeldfipipkfiaaGreatDoorCopied
namespace Go.Proofs.YtjeldfipipkfiaaGreatDoor
open Go.RowKit
set_option linter.unusedSimpArgs false
set_option linter.unusedVariables false
theorem owns_keep {w w' : World} {base e size n : Nat} {v : Value} {xs : List Value} (h : w.ownsRow base e size v n xs) (hk : ∀ g, v.ownBlock = some g → w'.heap[g]? = w.heap[g]?) : w'.ownsRow base e size v n xs := by
  obtain ⟨h1, h2⟩ := h
  refine ⟨h1, ?_⟩
  rcases h2 with h2 | ⟨g, cap, cur, hv, hg, hh, r⟩
  · exact .inl h2
  · subst hv
    exact .inr ⟨g, cap, cur, rfl, hg, (hk g rfl).trans hh, r⟩
theorem owns_lt {w : World} {base e size n g : Nat} {v : Value} {xs : List Value} (h : w.ownsRow base e size v n xs) (hg : v.ownBlock = some g) : base ≤ g ∧ g < w.heap.size := by
  obtain ⟨-, ⟨rfl, -⟩ | ⟨g', cap, cur, rfl, hb, hh, -⟩⟩ := h
  · simp [Value.ownBlock] at hg
  · simp [Value.ownBlock] at hg
    subst hg
    exact ⟨hb, (Array.getElem?_eq_some_iff.1 hh).1⟩
theorem owns_under {w w' : World} {base e size n : Nat} {v : Value} {xs : List Value} (h : w.ownsRow base e size v n xs) (hb : Below w.heap.size w w') : w'.ownsRow base e size v n xs :=
  owns_keep h fun g hg => hb.block g (owns_lt h hg).2
/-- the blocks in which an element's memory lies: the arguments', or the call's own but for the two rows -/
def InM (w : World) (B base : Nat) (nv sv : Value) : Nat → Prop := fun b => b < B ∨ (base ≤ b ∧ b < w.heap.size ∧ nv.ownBlock ≠ some b ∧ sv.ownBlock ≠ some b)
structure Out2 (w : World) (B base : Nat) (nv sv : Value) (L : List (ByteArray × Ty)) (F : List (Array Value)) : Prop where
  len : F.length = L.length
  row1 : w.ownsRow base 9 1 nv L.length (L.map fun p => Value.string p.1)
  row2 : w.ownsRow base 29 7 sv L.length (F.flatMap (·.toList))
  seven : ∀ c ∈ F, c.size = 7
  apart : ∀ g, nv.ownBlock = some g → sv.ownBlock ≠ some g
  each : ∀ i (h : i < L.length) (h' : i < F.length), TyM w (InM w B base nv sv) L[i].2 F[i]
theorem Out2.under {w w' : World} {B base : Nat} {nv sv : Value} {L : List (ByteArray × Ty)} {F : List (Array Value)} (h : Out2 w B base nv sv L F) (hb : Below w.heap.size w w') (hB : B ≤ w.heap.size) : Out2 w' B base nv sv L F :=
  ⟨h.len, owns_under h.row1 hb, owns_under h.row2 hb, h.seven, h.apart, fun i hi hi' => (h.each i hi hi').move (fun b hM => by
    rcases hM with hM | hM
    · exact .inl hM
    · exact .inr ⟨hM.1, Nat.lt_of_lt_of_le hM.2.1 hb.size, hM.2.2⟩) (fun p hp => by
    rcases hp with hp | hp
    · exact hb.cell (Nat.lt_of_lt_of_le hp hB)
    · exact hb.cell hp.2.1)⟩
theorem Out2.nil (w : World) (B base : Nat) : Out2 w B base (.slice none 0 0) (.slice none 0 0) [] [] :=
  ⟨rfl, World.ownsRow_nil _ _ _ _, World.ownsRow_nil _ _ _ _, by simp, fun g hg => by simp [Value.ownBlock] at hg, fun i hi => by simp at hi⟩
/-- behind both appends: one more of each -/
theorem Out2.push {w x1 x2 x3 x4 x5 : World} {B base gN cN gS cS : Nat} {nv sv : Value} {L : List (ByteArray × Ty)} {F : List (Array Value)} {s : ByteArray} {t : Ty} {c : Array Value} (h : Out2 w B base nv sv L F) (hB : B ≤ base) (hbase : base ≤ w.heap.size)
    (hx1 : Below w.heap.size w x1) (hg1 : x1.grownBy x2 nv.ownBlock) (hx3 : Below x2.heap.size x2 x3) (hg2 : x3.grownBy x4 sv.ownBlock) (hx5 : ∀ b, (b < B ∨ base ≤ b) → x5.heap[b]? = x4.heap[b]?) (hz5 : x5.heap.size = x4.heap.size)
    (hN : x2.ownsRow base 9 1 (.slice (some ⟨gN, 0, none⟩) (L.length + 1) cN) (L.length + 1) ((L.map fun p => Value.string p.1) ++ [.string s])) (hNat : nv.ownBlock = some gN ∨ w.heap.size ≤ gN)
    (hS : x4.ownsRow base 29 7 (.slice (some ⟨gS, 0, none⟩) (L.length + 1) cS) (L.length + 1) (F.flatMap (·.toList) ++ c.toList)) (hSat : sv.ownBlock = some gS ∨ x2.heap.size ≤ gS)
    (hc : c.size = 7) (ht : TyM w (InM w B base nv sv) t c) :
    Out2 x5 B base (.slice (some ⟨gN, 0, none⟩) (L.length + 1) cN) (.slice (some ⟨gS, 0, none⟩) (L.length + 1) cS) (L ++ [(s, t)]) (F ++ [c]) := by
  have s1 := hx1.size
  have s2 := hg1.size
  have s3 := hx3.size
  have s4 := hg2.size
  have hgN := owns_lt hN (show (Value.slice (some ⟨gN, 0, none⟩) (L.length + 1) cN).ownBlock = some gN from rfl)
  have hgS := owns_lt hS (show (Value.slice (some ⟨gS, 0, none⟩) (L.length + 1) cS).ownBlock = some gS from rfl)
  have hne : gN ≠ gS := by
    rintro rfl
    rcases hSat with hSat | hSat
    · rcases hNat with hNat | hNat
      · exact h.apart _ hNat hSat
      · have := (owns_lt h.row2 hSat).2
        omega
    · omega
  have hNS : sv.ownBlock ≠ some gN := by
    intro e
    rcases hNat with hNat | hNat
    · exact h.apart _ hNat e
    · have := (owns_lt h.row2 e).2
      omega
  -- a block that is neither row, of the first world
  have hfar : ∀ b, b < w.heap.size → nv.ownBlock ≠ some b → sv.ownBlock ≠ some b → (b < B ∨ base ≤ b) → x5.heap[b]? = w.heap[b]? := by
    intro b hb h1 h2 h3
    rw [hx5 b h3, hg2.block b (by omega) (fun e => h2 e.symm), hx3.block b (by omega), hg1.block b (by omega) (fun e => h1 e.symm), hx1.block b hb]
  have hcell : ∀ p : Addr, p.block < w.heap.size → nv.ownBlock ≠ some p.block → sv.ownBlock ≠ some p.block → (p.block < B ∨ base ≤ p.block) → x5.cell? p = w.cell? p :=
    fun p h0 h1 h2 h3 => World.cell?_of_block (w := w) (hfar p.block h0 h1 h2 h3)
  have hmove : ∀ {t c}, TyM w (InM w B base nv sv) t c → TyM x5 (InM x5 B base (.slice (some ⟨gN, 0, none⟩) (L.length + 1) cN) (.slice (some ⟨gS, 0, none⟩) (L.length + 1) cS)) t c := by
    intro t c ht
    refine ht.move (fun b hM => ?_) (fun p hM => ?_)
    · rcases hM with hM | ⟨m1, m2, m3, m4⟩
      · exact .inl hM
      · refine .inr ⟨m1, by omega, ?_, ?_⟩
        · rintro e
          simp [Value.ownBlock] at e
          subst e
          rcases hNat with hNat | hNat
          · exact m3 hNat
          · omega
        · rintro e
          simp [Value.ownBlock] at e
          subst e
          rcases hSat with hSat | hSat
          · exact m4 hSat
          · omega
    · rcases hM with hM | ⟨m1, m2, m3, m4⟩
      · refine hcell p (by omega) (fun e => ?_) (fun e => ?_) (.inl hM)
        · have := (owns_lt h.row1 e).1; omega
        · have := (owns_lt h.row2 e).1; omega
      · exact hcell p m2 m3 m4 (.inr m1)
  refine ⟨by simp [h.len], ?_, ?_, ?_, ?_, ?_⟩
  · have e : (L ++ [(s, t)]).length = L.length + 1 := by simp
    rw [e, List.map_append]
    refine owns_keep hN fun g hg => ?_
    simp [Value.ownBlock] at hg
    subst hg
    rw [hx5 _ (.inr hgN.1), hg2.block _ (by omega) (fun e => hNS e.symm), hx3.block _ (by omega)]
  · have e : (L ++ [(s, t)]).length = L.length + 1 := by simp
    rw [e, List.flatMap_append]
    have e2 : ([c] : List (Array Value)).flatMap (·.toList) = c.toList := by simp
    rw [e2]
    refine owns_keep hS fun g hg => ?_
    simp [Value.ownBlock] at hg
    subst hg
    exact hx5 _ (.inr hgS.1)
  · intro x hx
    rcases List.mem_append.1 hx with hx | hx
    · exact h.seven x hx
    · simp at hx; subst hx; exact hc
  · intro g hg e
    simp [Value.ownBlock] at hg e
    omega
  · intro i hi hi'
    by_cases hil : i < L.length
    · have hif : i < F.length := by rw [h.len]; exact hil
      rw [List.getElem_append_left hil, List.getElem_append_left hif]
      exact hmove (h.each i hil hif)
    · have e : i = L.length := by simp at hi; omega
      subst e
      have e1 : (L ++ [(s, t)])[L.length] = (s, t) := by simp
      have e2 : (F ++ [c])[L.length] = c := by
        rw [List.getElem_append_right (by rw [h.len]; omega)]
        simp [h.len]
      rw [e1, e2]
      exact hmove ht
end Go.Proofs.YtjeldfipipkfiaaGreatDoor
