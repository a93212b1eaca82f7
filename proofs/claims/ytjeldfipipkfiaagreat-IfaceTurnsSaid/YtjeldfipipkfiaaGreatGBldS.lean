/- Own rows of k cells an element, in the words of the shelf's sort: down to HoldsK, and up again. Plain Lean; no condition. -/
import Derived.Test.YtjeldfipipkfiaaGreatCpE
import Derived.Shelf.SlSortCmp.NoneTotal
import Derived.Test.YtjeldfipipkfiaaGreatGMem
import Derived.Test.YtjeldfipipkfiaaGreatGScope
import Derived.Test.YtjeldfipipkfiaaGreatGMent
import Derived.Test.YtjeldfipipkfiaaGreatGBldP
import Derived.Test.YtjeldfipipkfiaaGreatShelfN
namespace Go.Proofs.YtjeldfipipkfiaaGreat
open Go.RowKit
set_option linter.unusedSimpArgs false
set_option linter.unusedVariables false
section
variable {α : Type} [Inhabited α] {enc : α → List Value} {k : Nat}
omit [Inhabited α] in
theorem fm_len (hk : ∀ x, (enc x).length = k) : ∀ Z : List α, (Z.flatMap enc).length = Z.length * k
  | [] => by simp
  | x :: Z => by rw [List.flatMap_cons, List.length_append, hk, fm_len hk Z, List.length_cons, Nat.add_mul, Nat.one_mul, Nat.add_comm]
omit [Inhabited α] in
theorem fm_get (hk : ∀ x, (enc x).length = k) : ∀ (Z : List α) (i j : Nat) (hi : i < Z.length), j < k → (Z.flatMap enc)[i * k + j]? = (enc Z[i])[j]?
  | x :: Z, 0, j, _, hj => by
    rw [List.flatMap_cons, Nat.zero_mul, Nat.zero_add, List.getElem?_append_left (by rw [hk]; exact hj)]
    rfl
  | x :: Z, i + 1, j, hi, hj => by
    have e : (i + 1) * k + j = k + (i * k + j) := by rw [Nat.add_mul, Nat.one_mul]; omega
    rw [List.flatMap_cons, e, List.getElem?_append_right (by rw [hk]; omega), hk, Nat.add_sub_cancel_left, fm_get hk Z i j (by simpa using hi) hj]
    rfl
theorem flat_list (hk : ∀ x, (enc x).length = k) (h0 : 0 < k) (Z : List α) : (Go.Sort.flatK enc k Z.toArray).toList = Z.flatMap enc := by
  apply List.ext_getElem?
  intro t
  by_cases ht : t < Z.length * k
  · have hi : t / k < Z.length := Nat.div_lt_of_lt_mul (by rwa [Nat.mul_comm])
    have hj : t % k < k := Nat.mod_lt _ h0
    have e := fm_get hk Z (t / k) (t % k) hi hj
    rw [Nat.mul_comm, Nat.div_add_mod] at e
    rw [e, Array.getElem?_toList, Array.getElem?_eq_getElem (by simpa using ht)]
    have g := Go.Sort.get_flatK enc k Z.toArray t (by simpa using ht)
    rw [getElem!_pos _ _ (by simpa using ht)] at g
    rw [g, List.getElem?_eq_getElem (by rw [hk]; exact hj)]
    simp only [List.getElem!_toArray]
    rw [getElem!_pos Z _ hi, getElem!_pos _ _ (by rw [hk]; exact hj)]
  · rw [List.getElem?_eq_none (by simpa using Nat.le_of_not_lt ht), List.getElem?_eq_none (by rw [fm_len hk]; exact Nat.le_of_not_lt ht)]
theorem holdsK_of {w : World} {base : Nat} {e : TypeId} {v : Value} {n : Nat} {Z : List α} (hk : ∀ x, (enc x).length = k) (h0 : 0 < k) (h : w.ownsRow base e k v n (Z.flatMap enc)) (hv : n ≠ 0) :
    ∃ g cap, v = .slice (some ⟨g, 0, none⟩) n cap ∧ base ≤ g ∧ g < w.heap.size ∧ Z.length = n ∧ Go.Sort.HoldsK enc k w g 0 Z.toArray := by
  have hl : Z.length = n := by
    have := h.1
    rw [fm_len hk] at this
    exact Nat.eq_of_mul_eq_mul_right h0 this
  rcases h.2 with ⟨-, e0⟩ | ⟨g, cap, cur, rfl, hb, hg, hn, hm, hs, ht⟩
  · exact absurd e0 hv
  · have hlt : g < w.heap.size := by
      rcases Nat.lt_or_ge g w.heap.size with h' | h'
      · exact h'
      · rw [Array.getElem?_eq_none h'] at hg; cases hg
    refine ⟨g, cap, rfl, hb, hlt, hl, fun j hj => ?_⟩
    have hj' : j < n * k := by simpa [hl] using hj
    refine ⟨?_, by simp [World.frozen?, hg]⟩
    have e1 : (cur.toList.take (n * k))[j]? = (Go.Sort.flatK enc k Z.toArray).toList[j]? := by rw [ht, flat_list hk h0]
    have hf : (Go.Sort.flatK enc k Z.toArray)[j]? = some ((Go.Sort.flatK enc k Z.toArray)[j]!) := by rw [Array.getElem?_eq_getElem hj, getElem!_pos (Go.Sort.flatK enc k Z.toArray) j hj]
    rw [List.getElem?_take, if_pos hj', Array.getElem?_toList, Array.getElem?_toList, hf] at e1
    simp only [World.cell?, hg, Nat.zero_add]
    simp only [Option.isSome_none, Bool.false_eq_true, if_false]
    rw [e1]
    rfl
theorem owns_putK {w : World} {base : Nat} {e : TypeId} {g n cap q : Nat} {xs : List Value} {Y : List α} (hk : ∀ x, (enc x).length = k) (h0 : 0 < k) (h : w.ownsRow base e k (.slice (some ⟨g, 0, none⟩) n cap) n xs) (hy : Y.length = n) (os : Array Obj) :
    (Go.Proofs.sortWorldK enc k w g 0 q Y.toArray os).ownsRow base e k (.slice (some ⟨g, 0, none⟩) n cap) n (Y.flatMap enc) := by
  rcases h.2 with ⟨e0, _⟩ | ⟨g', cap', cur, e0, hb, hg, hn, hm, hs, ht⟩
  · cases e0
  · injection e0 with e1 _ e3
    injection e1 with e1
    injection e1 with e1
    subst e1; subst e3
    refine ⟨by rw [fm_len hk, hy], .inr ⟨g, cap, Go.Sort.putCells id 0 (Go.Sort.flatK enc k Y.toArray) cur, rfl, hb, ?_, hn, hm, by simpa [Go.Sort.putCells] using hs, ?_⟩⟩
    · have hlt : g < w.heap.size := (Array.getElem?_eq_some_iff.1 hg).1
      simp only [Go.Proofs.sortWorldK, Go.Sort.putRowK, Go.Sort.putRow, Go.Sort.mapBlock, Go.Sort.ahead, Go.Sort.grow]
      rw [Array.getElem?_append_left (by simpa using hlt), Array.getElem?_modify, if_pos rfl, hg]
      rfl
    · rw [← flat_list hk h0]
      apply List.ext_getElem?
      intro j
      have hsz : (Go.Sort.flatK enc k Y.toArray).size = n * k := by simp [hy]
      rw [List.getElem?_take, Array.getElem?_toList, Array.getElem?_toList]
      by_cases hj : j < n * k
      · have hc : n * k ≤ cap * k := Nat.mul_le_mul_right k hn
        have hjc : j < cur.size := by omega
        rw [if_pos hj]
        simp only [Go.Sort.putCells, Array.getElem?_mapIdx, Array.getElem?_eq_getElem hjc, Option.map_some]
        rw [if_pos (by omega), Array.getElem?_eq_getElem (by omega), Nat.sub_zero, getElem!_pos _ _ (by omega)]
        rfl
      · rw [if_neg hj, Array.getElem?_eq_none (by omega)]
theorem sort_block {w : World} {g q : Nat} {d : Array α} {os : Array Obj} (b : Nat) (hb : b < w.heap.size) (hn : b ≠ g) : (Go.Proofs.sortWorldK enc k w g 0 q d os).heap[b]? = w.heap[b]? := by
  simp only [Go.Proofs.sortWorldK, Go.Sort.putRowK, Go.Sort.putRow, Go.Sort.mapBlock, Go.Sort.ahead, Go.Sort.grow]
  rw [Array.getElem?_append_left (by simpa using hb), Array.getElem?_modify, if_neg (Ne.symm hn)]
theorem sort_size {w : World} {g q : Nat} {d : Array α} {os : Array Obj} : w.heap.size ≤ (Go.Proofs.sortWorldK enc k w g 0 q d os).heap.size := Go.Proofs.size_sortWorldK_c enc k w g 0 q d os
theorem sort_below {w : World} {g q : Nat} {d : Array α} {os : Array Obj} (hg : g < w.heap.size) : Below g w (Go.Proofs.sortWorldK enc k w g 0 q d os) :=
  ⟨rfl, rfl, rfl, sort_size, fun b hb => sort_block b (Nat.lt_trans hb hg) (Nat.ne_of_lt hb)⟩
end
end Go.Proofs.YtjeldfipipkfiaaGreat
namespace Go.Proofs.YtjeldfipipkfiaaGreat
open Go.RowKit
set_option linter.unusedSimpArgs false
set_option linter.unusedVariables false
def flatK (f : Nat → Array Value) (n : Nat) : List Value := (List.range n).flatMap fun i => (f i).toList
theorem flatK_succ (f : Nat → Array Value) (n : Nat) : flatK f (n + 1) = flatK f n ++ (f n).toList := by simp [flatK, List.range_succ]
theorem flatK_len {K : Nat} {f : Nat → Array Value} : ∀ {n : Nat}, (∀ i, i < n → (f i).size = K) → (flatK f n).length = n * K
  | 0, _ => by simp [flatK]
  | n + 1, h => by
    rw [flatK_succ, List.length_append, flatK_len (n := n) (fun i hi => h i (by omega)), Array.length_toList, h n (by omega), Nat.succ_mul]
theorem flatK_get {K : Nat} {f : Nat → Array Value} : ∀ {n : Nat}, (∀ i, i < n → (f i).size = K) → ∀ i j, i < n → j < K → (flatK f n)[i * K + j]? = (f i)[j]?
  | 0, _, i, j, hi, _ => by omega
  | n + 1, h, i, j, hi, hj => by
    have hl := flatK_len (K := K) (f := f) (n := n) (fun i hi => h i (by omega))
    rw [flatK_succ]
    by_cases e : i = n
    · subst e
      rw [List.getElem?_append_right (by rw [hl]; omega), hl, Array.getElem?_toList]
      congr 1; omega
    · have : i * K + j < n * K := by
        have : (i + 1) * K ≤ n * K := Nat.mul_le_mul_right _ (by omega)
        rw [Nat.succ_mul] at this; omega
      rw [List.getElem?_append_left (by rw [hl]; exact this)]
      exact flatK_get (n := n) (fun i hi => h i (by omega)) i j (by omega) hj
theorem flatK_app (f f' : Nat → Array Value) (n : Nat) : ∀ m, flatK f n ++ flatK f' m = flatK (fun i => if i < n then f i else f' (i - n)) (n + m)
  | 0 => by
    simp only [flatK, List.range_zero, List.flatMap_nil, List.append_nil, Nat.add_zero]
    rw [List.flatMap_def, List.flatMap_def]
    congr 1
    apply List.map_congr_left
    intro i hi
    rw [if_pos (List.mem_range.1 hi)]
  | m + 1 => by
    rw [flatK_succ, ← List.append_assoc, flatK_app f f' n m, ← Nat.add_assoc, flatK_succ]
    congr 1
    rw [if_neg (by omega), Nat.add_sub_cancel_left]
theorem rows_src {K : Nat} {w : World} {B : Nat} {a : Addr} {n : Nat} {f : Nat → Array Value} (hK : 0 < K) (h : RowsK K w B (some a) n f) (hz : ∀ i, i < n → (f i).size = K) : ∀ j u, (flatK f n)[j]? = some u → w.cell? (a.add j) = some u := by
  intro j u hu
  have hj : j < n * K := by
    have := (List.getElem?_eq_some_iff.1 hu).1
    rwa [flatK_len hz] at this
  rcases h with rfl | ⟨b, o, hA, -, hc⟩
  · omega
  · cases hA
    have hi : j / K < n := Nat.div_lt_of_lt_mul (by rw [Nat.mul_comm]; exact hj)
    have hr : j % K < K := Nat.mod_lt _ hK
    have e : j / K * K + j % K = j := by rw [Nat.mul_comm]; exact Nat.div_add_mod j K
    rw [addN, ← e, ← Nat.add_assoc, hc _ hi _ (by rw [hz _ hi]; exact hr), ← flatK_get hz _ _ hi hr, e, hu]
theorem own_rows {K : Nat} {w : World} {base : Nat} {T : TypeId} {v : Value} {n : Nat} {f : Nat → Array Value} (h : w.ownsRow base T K v n (flatK f n)) (hz : ∀ i, i < n → (f i).size = K) :
    ∃ A cap, v = .slice A n cap ∧ n ≤ cap ∧ RowsK K w w.heap.size A n f := by
  obtain ⟨-, ⟨rfl, hn⟩ | ⟨g, cap, cur, rfl, hb, hh, hnc, hcm, hsz, htk⟩⟩ := h
  · exact ⟨none, 0, by rw [hn], by omega, .inl hn⟩
  · refine ⟨_, cap, rfl, hnc, .inr ⟨g, 0, rfl, (Array.getElem?_eq_some_iff.1 hh).1, fun i hi j hj => ?_⟩⟩
    rw [hz i hi] at hj
    have hlt : i * K + j < n * K := by
      have : (i + 1) * K ≤ n * K := Nat.mul_le_mul_right _ (by omega)
      rw [Nat.succ_mul] at this; omega
    rw [← flatK_get hz i j hi hj, ← htk, List.getElem?_take, if_pos hlt]
    simp [World.cell?, hh]
theorem flatK_one {K : Nat} {f : Nat → Array Value} {n : Nat} (h : ∀ i, i < n → ∀ u ∈ (f i).toList, u.oneCell' = true) : ∀ u ∈ flatK f n, u.oneCell' = true := by
  intro u hu
  obtain ⟨i, hi, hm⟩ := List.mem_flatMap.1 hu
  exact h i (List.mem_range.1 hi) u hm
end Go.Proofs.YtjeldfipipkfiaaGreat
namespace Go.Proofs.YtjeldfipipkfiaaGreat
open Go.RowKit
set_option linter.unusedSimpArgs false
set_option linter.unusedVariables false
theorem infoDcl : ((Tryz.prog).info? 55).map (fun i => (i.zero, i.size, i.bytes)) = some (some (.agg #[.int .i64 0, .string { data := #[] }, .int .i64 0, .string { data := #[] }, .int .i64 0, .string { data := #[] }, .string { data := #[] }, .slice none 0 0, .slice none 0 0]), 9, 136) := by kernel_rfl
theorem infoImp : ((Tryz.prog).info? 72).map (fun i => (i.zero, i.size, i.bytes)) = some (some (.agg #[.string { data := #[] }, .int .i64 0, .string { data := #[] }, .string { data := #[] }]), 4, 56) := by kernel_rfl
def DclM (w : World) (M : Nat → Prop) (d : Dcl) (cs : Array Value) : Prop := DclFits d ∧ ∃ na nc sa sc, cs = dclCells d na nc sa sc ∧ TyM w M d.ty (tyCells d.ty na nc sa sc)
theorem DclM.move {w w' : World} {M M' : Nat → Prop} {d : Dcl} {cs : Array Value} (h : DclM w M d cs) (hM : ∀ b, M b → M' b) (hk : ∀ p : Addr, M p.block → w'.cell? p = w.cell? p) : DclM w' M' d cs := by
  obtain ⟨h0, na, nc, sa, sc, h1, h2⟩ := h
  exact ⟨h0, na, nc, sa, sc, h1, h2.move hM hk⟩
theorem DclM.toC {w : World} {B : Nat} {d : Dcl} {cs : Array Value} (h : DclM w (· < B) d cs) : DclC w B d cs := by
  obtain ⟨h0, na, nc, sa, sc, h1, h2⟩ := h
  exact ⟨h0, na, nc, sa, sc, h1, h2.toC⟩
theorem DclM.size {w : World} {M : Nat → Prop} {d : Dcl} {cs : Array Value} (h : DclM w M d cs) : cs.size = 9 := by
  obtain ⟨h0, na, nc, sa, sc, rfl, h2⟩ := h; rfl
theorem DclM.one {w : World} {M : Nat → Prop} {d : Dcl} {cs : Array Value} (h : DclM w M d cs) : ∀ u ∈ cs.toList, u.oneCell' = true := by
  obtain ⟨h0, na, nc, sa, sc, rfl, h2⟩ := h
  simp [dclCells, Value.oneCell']
structure RowD (w : World) (base : Nat) (N : Nat → Prop) (sv : Value) (L : List Dcl) (F : List (Array Value)) : Prop where
  len : F.length = L.length
  row : w.ownsRow base 55 9 sv L.length (F.flatMap (·.toList))
  elems : ∀ i (h : i < L.length) (h' : i < F.length), DclM w (fun b => N b ∧ b < w.heap.size ∧ sv.ownBlock ≠ some b) L[i] F[i]
theorem RowD.nil (w : World) (base : Nat) (N : Nat → Prop) : RowD w base N (.slice none 0 0) [] [] := ⟨rfl, World.ownsRow_nil w _ _ _, fun i h => by simp at h⟩
theorem RowD.keep {w w' : World} {base : Nat} {N : Nat → Prop} {sv : Value} {L : List Dcl} {F : List (Array Value)} (h : RowD w base N sv L F) (hs : w.heap.size ≤ w'.heap.size) (hk : ∀ b, b < w.heap.size → (N b ∨ sv.ownBlock = some b) → w'.heap[b]? = w.heap[b]?) : RowD w' base N sv L F := by
  refine ⟨h.len, owns_keep h.row fun g hg => hk g (owns_lt h.row hg).2 (.inr hg), fun i h1 h2 => ?_⟩
  refine (h.elems i h1 h2).move (fun b hb => ⟨hb.1, Nat.lt_of_lt_of_le hb.2.1 hs, hb.2.2⟩) fun p hp => World.cell?_of_block (hk _ hp.2.1 (.inl hp.1))
theorem RowD.under {w w' : World} {base : Nat} {N : Nat → Prop} {sv : Value} {L : List Dcl} {F : List (Array Value)} (h : RowD w base N sv L F) (hb : Below w.heap.size w w') : RowD w' base N sv L F :=
  h.keep hb.size fun b hlt _ => hb.block b hlt
theorem RowD.push {w x3 x4 : World} {base g c : Nat} {N : Nat → Prop} {sv : Value} {L : List Dcl} {F : List (Array Value)} {d : Dcl} {cs : Array Value} (h : RowD w base N sv L F) (hs : w.heap.size ≤ x3.heap.size)
    (hk : ∀ b, b < w.heap.size → (N b ∨ sv.ownBlock = some b) → x3.heap[b]? = w.heap[b]?) (hd : DclM x3 (fun b => N b ∧ b < x3.heap.size ∧ sv.ownBlock ≠ some b) d cs)
    (hg : x3.grownBy x4 sv.ownBlock) (hown : x4.ownsRow base 55 9 (.slice (some ⟨g, 0, none⟩) (L.length + 1) c) (L.length + 1) (F.flatMap (·.toList) ++ cs.toList)) (hat : sv.ownBlock = some g ∨ g = x3.heap.size) :
    RowD x4 base N (.slice (some ⟨g, 0, none⟩) (L.length + 1) c) (L ++ [d]) (F ++ [cs]) := by
  have h3 := h.keep hs hk
  have hne : ∀ b, b < x3.heap.size → sv.ownBlock ≠ some b → (Value.slice (some ⟨g, 0, none⟩) (L.length + 1) c).ownBlock ≠ some b := by
    intro b hb hn e
    have e : g = b := by simpa [Value.ownBlock] using e
    subst e
    rcases hat with h | h
    · exact hn h
    · omega
  have hmv : ∀ {d : Dcl} {cs : Array Value}, DclM x3 (fun b => N b ∧ b < x3.heap.size ∧ sv.ownBlock ≠ some b) d cs → DclM x4 (fun b => N b ∧ b < x4.heap.size ∧ (Value.slice (some ⟨g, 0, none⟩) (L.length + 1) c).ownBlock ≠ some b) d cs :=
    fun h => h.move (fun b hb => ⟨hb.1, Nat.lt_of_lt_of_le hb.2.1 hg.size, hne b hb.2.1 hb.2.2⟩) fun p hp => World.cell?_of_block (hg.block _ hp.2.1 (fun e => hp.2.2 e.symm))
  refine ⟨by simp [h.len], ?_, fun i h1 h2 => ?_⟩
  · rw [List.flatMap_append, List.length_append]
    simpa using hown
  · by_cases e : i < L.length
    · have e2 : i < F.length := by rw [h.len]; exact e
      rw [List.getElem_append_left e, List.getElem_append_left e2]
      exact hmv (h3.elems i e e2)
    · have e1 : i = L.length := by simp at h1; omega
      subst e1
      rw [List.getElem_append_right (by omega), List.getElem_append_right (by rw [h.len]; omega)]
      simp
      exact hmv hd
theorem RowD.at {w : World} {base : Nat} {N : Nat → Prop} {sv : Value} {L : List Dcl} {F : List (Array Value)} (h : RowD w base N sv L F) : ∃ A c, sv = .slice A L.length c ∧ L.length ≤ c ∧ DclsAt w w.heap.size A L := by
  have hz : ∀ i, i < L.length → ((fun i => F.getD i #[]) i).size = 9 := fun i hi => by
    have h2 : i < F.length := by rw [h.len]; exact hi
    show (F.getD i #[]).size = 9
    rw [List.getD_eq_getElem?_getD, List.getElem?_eq_getElem h2]
    exact (h.elems i hi h2).size
  have e : F.flatMap (·.toList) = flatK (fun i => F.getD i #[]) L.length := by
    rw [flatK, ← h.len, List.flatMap_def, List.flatMap_def]
    congr 1
    refine List.ext_getElem (by simp) fun i h1 h2 => ?_
    simp at h1
    simp [h1]
  have hr := h.row
  rw [e] at hr
  obtain ⟨A, c, h1, h2, h3⟩ := own_rows hr hz
  refine ⟨A, c, h1, h2, _, h3, fun i hi => ?_⟩
  have h2 : i < F.length := by rw [h.len]; exact hi
  have := h.elems i hi h2
  show DclC w w.heap.size L[i] (F.getD i #[])
  rw [show F.getD i #[] = F[i] by simp [h2]]
  exact (this.move (fun b hb => hb.2.1) fun _ _ => rfl).toC
end Go.Proofs.YtjeldfipipkfiaaGreat
namespace Go.Proofs.YtjeldfipipkfiaaGreat
open Go.RowKit
set_option linter.unusedSimpArgs false
set_option linter.unusedVariables false
abbrev NmZ := Nm × Option Addr × Nat × Option Addr × Nat
def nzCells (z : NmZ) : Array Value := nmCells z.1 z.2.1 z.2.2.1 z.2.2.2.1 z.2.2.2.2
def nzEnc (z : NmZ) : List Value := (nzCells z).toList
theorem nz_len (z : NmZ) : (nzEnc z).length = 8 := rfl
theorem nz_one (z : NmZ) : ∀ v ∈ nzEnc z, v.oneCell' = true := by simp [nzEnc, nzCells, nmCells, Value.oneCell']
instance : Inhabited NmZ := ⟨(⟨{ data := #[] }, zT⟩, none, 0, none, 0)⟩
def NmZM (w : World) (M : Nat → Prop) (z : NmZ) : Prop := z.1.name.size ≤ maxLen ∧ TyM w M z.1.ty (tyCells z.1.ty z.2.1 z.2.2.1 z.2.2.2.1 z.2.2.2.2)
theorem NmZM.move {w w' : World} {M M' : Nat → Prop} {z : NmZ} (h : NmZM w M z) (hM : ∀ b, M b → M' b) (hk : ∀ p : Addr, M p.block → w'.cell? p = w.cell? p) : NmZM w' M' z := ⟨h.1, h.2.move hM hk⟩
theorem NmZM.toC {w : World} {B : Nat} {z : NmZ} (h : NmZM w (· < B) z) : NmC w B z.1 (nzCells z) := ⟨h.1, _, _, _, _, rfl, h.2.toC⟩
structure RowZ (w : World) (base : Nat) (sv ov : Value) (Z : List NmZ) : Prop where
  row : w.ownsRow base 57 8 sv Z.length (Z.flatMap nzEnc)
  each : ∀ z ∈ Z, NmZM w (InM w 0 base sv ov) z
structure Push (w x : World) (base : Nat) (sv sv' ov : Value) : Prop where
  size : w.heap.size ≤ x.heap.size
  keep : ∀ b, base ≤ b → b < w.heap.size → sv.ownBlock ≠ some b → x.heap[b]? = w.heap[b]?
  at_ : ∀ g, sv'.ownBlock = some g → sv.ownBlock = some g ∨ w.heap.size ≤ g
theorem InM.swap {w : World} {base b : Nat} {a c : Value} (h : InM w 0 base a c b) : InM w 0 base c a b := h.imp id fun ⟨h1, h2, h3, h4⟩ => ⟨h1, h2, h4, h3⟩
theorem Push.nm {w x : World} {base : Nat} {sv sv' ov : Value} (hp : Push w x base sv sv' ov) {z : NmZ} (h : NmZM w (InM w 0 base sv ov) z) : NmZM x (InM x 0 base sv' ov) z := by
  refine h.move (fun b hM => ?_) (fun p hM => ?_)
  · rcases hM with hM | ⟨m1, m2, m3, m4⟩
    · exact .inl hM
    · refine .inr ⟨m1, Nat.lt_of_lt_of_le m2 hp.size, fun e => ?_, m4⟩
      rcases hp.at_ b e with h | h
      · exact m3 h
      · omega
  · rcases hM with hM | ⟨m1, m2, m3, m4⟩
    · omega
    · exact World.cell?_of_block (w := w) (hp.keep _ m1 m2 m3)
theorem RowZ.other {w x : World} {base : Nat} {sv sv' ov : Value} {Z : List NmZ} (h : RowZ w base ov sv Z) (hp : Push w x base sv sv' ov) (hap : ∀ g, ov.ownBlock = some g → sv.ownBlock ≠ some g) : RowZ x base ov sv' Z :=
  ⟨owns_keep h.row fun g hg => hp.keep g (owns_lt h.row hg).1 (owns_lt h.row hg).2 (hap g hg), fun z hz => (hp.nm ((h.each z hz).move (fun _ => InM.swap) fun _ _ => rfl)).move (fun _ => InM.swap) fun _ _ => rfl⟩
theorem RowZ.under {w w' : World} {base : Nat} {sv ov : Value} {Z : List NmZ} (h : RowZ w base sv ov Z) (hb : Below w.heap.size w w') : RowZ w' base sv ov Z :=
  ⟨owns_under h.row hb, fun z hz => (h.each z hz).move (fun b hM => hM.imp id fun ⟨h1, h2, h3⟩ => ⟨h1, Nat.lt_of_lt_of_le h2 hb.size, h3⟩) fun p hM => by
    rcases hM with hM | hM
    · omega
    · exact hb.cell hM.2.1⟩
theorem RowZ.nil (w : World) (base : Nat) (ov : Value) : RowZ w base (.slice none 0 0) ov [] := ⟨World.ownsRow_nil _ _ _ _, fun z hz => by cases hz⟩
structure Bld2 (w : World) (base : Nat) (tv vv : Value) (T V : List NmZ) : Prop where
  t : RowZ w base tv vv T
  v : RowZ w base vv tv V
  apart : ∀ g, tv.ownBlock = some g → vv.ownBlock ≠ some g
theorem Bld2.swap {w : World} {base : Nat} {tv vv : Value} {T V : List NmZ} (h : Bld2 w base tv vv T V) : Bld2 w base vv tv V T := ⟨h.v, h.t, fun g h1 h2 => h.apart g h2 h1⟩
theorem Bld2.nil (w : World) (base : Nat) : Bld2 w base (.slice none 0 0) (.slice none 0 0) [] [] := ⟨.nil .., .nil .., fun g h => by simp [Value.ownBlock] at h⟩
theorem Bld2.under {w w' : World} {base : Nat} {tv vv : Value} {T V : List NmZ} (h : Bld2 w base tv vv T V) (hb : Below w.heap.size w w') : Bld2 w' base tv vv T V := ⟨h.t.under hb, h.v.under hb, h.apart⟩
theorem Bld2.turn {w x : World} {base : Nat} {tv tv' vv : Value} {T T' V : List NmZ} (h : Bld2 w base tv vv T V) (hp : Push w x base tv tv' vv) (hr : x.ownsRow base 57 8 tv' T'.length (T'.flatMap nzEnc)) (he : ∀ z ∈ T', NmZM w (InM w 0 base tv vv) z) : Bld2 x base tv' vv T' V :=
  ⟨⟨hr, fun z hz => hp.nm (he z hz)⟩, h.v.other hp fun g h1 h2 => h.apart g h2 h1, fun g h1 h2 => by
    rcases hp.at_ g h1 with h3 | h3
    · exact h.apart g h3 h2
    · have := (owns_lt h.v.row h2).2
      omega⟩
theorem Bld2.push {w x3 x4 x5 : World} {base gS cS n : Nat} {tv vv : Value} {T V : List NmZ} {z : NmZ} (h : Bld2 w base tv vv T V) (hn : T.length = n) (hx3 : Below w.heap.size w x3) (hg : x3.grownBy x4 tv.ownBlock) (hx5 : ∀ b, base ≤ b → x5.heap[b]? = x4.heap[b]?) (hz5 : x5.heap.size = x4.heap.size)
    (hS : x4.ownsRow base 57 8 (.slice (some ⟨gS, 0, none⟩) (n + 1) cS) (n + 1) (T.flatMap nzEnc ++ nzEnc z)) (hat : tv.ownBlock = some gS ∨ x3.heap.size ≤ gS) (hz : NmZM w (InM w 0 base tv vv) z) :
    Bld2 x5 base (.slice (some ⟨gS, 0, none⟩) (n + 1) cS) vv (T ++ [z]) V := by
  subst hn
  have s3 := hx3.size
  have s4 := hg.size
  refine h.turn ⟨by omega, fun b h1 h2 h3 => by rw [hx5 b h1, hg.block b (by omega) (fun e => h3 e.symm), hx3.block b h2], fun g hg => ?_⟩ ?_ (fun y hy => ?_)
  · simp [Value.ownBlock] at hg
    subst hg
    exact hat.imp id fun h => Nat.le_trans s3 h
  · rw [List.length_append, List.flatMap_append]
    have e : ([z] : List NmZ).flatMap nzEnc = nzEnc z := by simp
    rw [e]
    refine owns_keep hS fun g hg => hx5 g ?_
    exact (owns_lt hS hg).1
  · rcases List.mem_append.1 hy with hy | hy
    · exact h.t.each y hy
    · simp at hy; subst hy; exact hz
theorem RowZ.at {w : World} {base : Nat} {sv ov : Value} {Z : List NmZ} (h : RowZ w base sv ov Z) : ∃ A c, sv = .slice A Z.length c ∧ Z.length ≤ c ∧ NmsAt w w.heap.size A (Z.map (·.1)) := by
  have hr : w.ownsRow base 57 8 sv Z.length (flatK (fun i => nzCells (Z.getD i default)) Z.length) := by
    have e : flatK (fun i => nzCells (Z.getD i default)) Z.length = Z.flatMap nzEnc := by
      have hZ : (List.range Z.length).map (fun i => Z.getD i default) = Z := List.ext_getElem (by simp) fun i h1 h2 => by simp [List.getD, h2]
      have e2 : ((List.range Z.length).map (fun i => Z.getD i default)).flatMap nzEnc = Z.flatMap nzEnc := by rw [hZ]
      rw [← e2, List.flatMap_map]
      rfl
    rw [e]; exact h.row
  obtain ⟨A, c, h1, h2, h3⟩ := own_rows hr fun i _ => rfl
  refine ⟨A, c, h1, h2, fun i => nzCells (Z.getD i default), by rw [List.length_map]; exact h3, fun i hi => ?_⟩
  rw [List.length_map] at hi
  have e : Z.getD i default = Z[i] := by simp [List.getD, hi]
  rw [List.getElem_map]
  dsimp only
  rw [e]
  exact ((h.each Z[i] (List.getElem_mem hi)).move (M' := (· < w.heap.size)) (fun b hM => hM.elim (fun h => by omega) fun h => h.2.1) fun _ _ => rfl).toC
/-! the sort -/
def cmpNm (x y : NmZ) : Int := if ltB x.1.name y.1.name = true then -1 else if ltB y.1.name x.1.name = true then 1 else 0
theorem lt_cmpNm (x y : NmZ) : Go.Proofs.ltOf cmpNm x y = ltB x.1.name y.1.name := by
  unfold Go.Proofs.ltOf cmpNm
  cases h1 : ltB x.1.name y.1.name
  · cases h2 : ltB y.1.name x.1.name <;> rfl
  · rfl
theorem swo_cmpNm : Go.Sort.SWO (Go.Proofs.ltOf cmpNm) := by
  refine { irrefl := fun x => by rw [lt_cmpNm, ltB_irrefl], trans := fun x y z h1 h2 => by { rw [lt_cmpNm] at *; exact ltB_trans h1 h2 }, ntrans := fun x y z h1 h2 => ?_ }
  · rw [lt_cmpNm] at *
    cases h : ltB x.1.name z.1.name with
    | false => rfl
    | true =>
      by_cases e : y.1.name = z.1.name
      · rw [e, h] at h1; cases h1
      · have h3 := ltB_oth (a := y.1.name) (b := z.1.name) (by rw [h2]; decide) e
        rw [ltB_trans h h3] at h1
        cases h1
theorem perm_all {T : List NmZ} {d : Array NmZ} (hp : Go.Sort.PermIn 0 T.toArray.size T.toArray d) : d.toList.Perm T ∧ d.toList.length = T.length := by
  obtain ⟨h1, -, h3⟩ := hp
  have e1 : d.extract 0 T.toArray.size = d := by rw [← h1]; exact Array.extract_size
  have e2 : T.toArray.extract 0 T.toArray.size = T.toArray := Array.extract_size
  rw [e1, e2] at h3
  have h3 : d.toList.Perm T := by simpa using h3
  exact ⟨h3, h3.length_eq⟩
theorem Bld2.sort {w : World} {base g n cap q : Nat} {vv : Value} {T V : List NmZ} {d : Array NmZ} (os : Array Obj) (h : Bld2 w base (.slice (some ⟨g, 0, none⟩) n cap) vv T V) (hn : T.length = n) (hp : Go.Sort.PermIn 0 T.toArray.size T.toArray d) :
    Bld2 (Go.Proofs.sortWorldK nzEnc 8 w g 0 q d os) base (.slice (some ⟨g, 0, none⟩) n cap) vv d.toList V := by
  subst hn
  obtain ⟨h1, h2⟩ := perm_all hp
  refine h.turn ⟨sort_size, fun b _ hb hn => sort_block b hb (fun e => hn (by rw [e]; rfl)), fun g' h => .inl h⟩ ?_ (fun z hz => h.t.each z (h1.mem_iff.1 hz))
  have := owns_putK (q := q) (Y := d.toList) nz_len (by decide) h.t.row h2 os
  rw [Array.toArray_toList] at this
  rw [h2]
  exact this
theorem sorted_is {T : List NmZ} {d : Array NmZ} (hn : ((T.map (·.1)).map Nm.name).Nodup) (hp : Go.Sort.PermIn 0 T.toArray.size T.toArray d) (hs : Go.Sort.SortedIn (Go.Proofs.ltOf cmpNm) 0 T.toArray.size d) : d.toList.map (·.1) = sortNm (T.map (·.1)) := by
  obtain ⟨h1, h2⟩ := perm_all hp
  have hm := h1.map (·.1)
  refine sortNm_uniq hn ?_ hm
  have hn2 := (hm.map Nm.name).nodup_iff.2 hn
  rw [RiseN, List.pairwise_iff_getElem]
  intro i j hi hj hij
  have hi' : i < d.size := by simpa using hi
  have hj' : j < d.size := by simpa using hj
  have hsz : T.toArray.size = d.size := hp.1.symm
  have h3 := hs i j (Nat.zero_le _) hij (by rw [hsz]; exact hj')
  rw [lt_cmpNm, getElem!_pos d j hj', getElem!_pos d i hi'] at h3
  rw [List.getElem_map, List.getElem_map, Array.getElem_toList, Array.getElem_toList]
  refine ltB_oth (by rw [h3]; decide) fun e => ?_
  have := (List.pairwise_iff_getElem.1 (List.nodup_iff_pairwise_ne.1 hn2)) i j (by simpa using hi) (by simpa using hj) hij
  apply this
  simp only [List.getElem_map, Array.getElem_toList]
  exact e.symm
end Go.Proofs.YtjeldfipipkfiaaGreat
namespace Go.Proofs.YtjeldfipipkfiaaGreat
open Go.RowKit
set_option linter.unusedSimpArgs false
set_option linter.unusedVariables false
theorem cmpStr_c (a b : ByteArray) (w : World) :
    Calls Tryz.prog 26 #[.string a, .string b] w fun e w' => e = .returned (.int .i64 (if ltB a b = true then -1 else if ltB b a = true then 1 else 0)) ∧ w' = w := by
  obtain ⟨p, hp⟩ : ∃ p, ltB a b = p := ⟨_, rfl⟩
  obtain ⟨q, hq⟩ : ∃ q, ltB b a = q := ⟨_, rfl⟩
  rw [hp, hq]
  have h1 : Op.bytesLess a.toList b.toList = p := hp
  have h2 : Op.bytesLess b.toList a.toList = q := hq
  have h3 : (a.toList == b.toList) = (!p && !q) := by
    rw [ba_eq, ← hp, ← hq]
    by_cases e : a = b
    · subst e; rw [ltB_irrefl]; simp
    · cases h : ltB a b with
      | true => simp [e]
      | false => rw [ltB_oth (by rw [h]; decide) e]; simp [e]
  clear hp hq
  cases p
  · cases q
    · simp only [Bool.not_false, Bool.not_true, Bool.and_true, Bool.and_false, Bool.and_self] at h3
      go_enter Tryz.func26, Tryz.ntmps26
      go_wp2
      go_ret
      exact ⟨rfl, rfl⟩
    · simp only [Bool.not_false, Bool.not_true, Bool.and_true, Bool.and_false, Bool.and_self] at h3
      go_enter Tryz.func26, Tryz.ntmps26
      go_wp2
      go_ret
      exact ⟨rfl, rfl⟩
  · go_enter Tryz.func26, Tryz.ntmps26
    go_wp2
    go_ret
    exact ⟨rfl, rfl⟩
set_option maxHeartbeats 4000000 in
theorem cmpB_c (x y : NmZ) (W : World) :
    Calls Tryz.prog 25 #[.agg (nzEnc x).toArray, .agg (nzEnc y).toArray] W fun e w' => e = .returned (.int .i64 (cmpNm x y)) ∧ ∃ q os', w' = Go.Sort.grow (W.drewN q) os' := by
  have hcon := fun W' => cmpStr_c x.1.name y.1.name W'
  rw [show (if ltB x.1.name y.1.name = true then (-1 : Int) else if ltB y.1.name x.1.name = true then 1 else 0) = cmpNm x y from rfl] at hcon
  generalize cmpNm x y = r at hcon ⊢
  simp only [nzEnc, nzCells, nmCells]
  go_enter Tryz.func25, Tryz.ntmps25
  go_wp2_with (go_at_call 26; refine (hcon _).mono ?_; rintro e w' ⟨rfl, rfl⟩)
  go_ret
  exact ⟨rfl, 0, _, by rw [Go.Sort.alloc_eq_grow, Go.Sort.alloc_eq_grow, Go.Sort.grow_grow]; rfl⟩
theorem aggNm : ∀ w, (isAgg 57).run Tryz.prog w = .ok true w := fun w => by kernel_rfl
theorem sizeNm : ∀ w, (Go.sizeOf 57).run Tryz.prog w = .ok 8 w := fun w => by kernel_rfl
theorem sortB_c {w : World} {base n : Nat} {tv vv : Value} {T V : List NmZ} (h : Bld2 w base tv vv T V) (hn : T.length = n) (hl : n ≤ 1000000) (hu : ((T.map (·.1)).map Nm.name).Nodup) :
    Calls Tryz.prog 27 #[tv, .func (.func 25) #[] #[]] w fun e w' => e = .returned (.tuple #[]) ∧ Below base w w' ∧ ∃ T', Bld2 w' base tv vv T' V ∧ T'.map (·.1) = sortNm (T.map (·.1)) ∧ T'.length = n := by
  subst hn
  by_cases h0 : T.length = 0
  · have hT : T = [] := List.eq_nil_of_length_eq_zero h0
    subst hT
    obtain ⟨A, c, htv, -, -⟩ := h.t.at
    have hcon := AnyF.slices_SortFunc_none Tryz.sortNmL A c (.func (.func 25) #[] #[]) w
    rw [htv]
    refine Calls.mono (show Calls Tryz.prog 27 _ w _ from hcon) ?_
    rintro e w' ⟨rfl, rfl⟩
    exact ⟨rfl, Below.refl _ _, [], by rw [← htv]; exact h, rfl, rfl⟩
  · obtain ⟨g, cap, htv, hg, hgl, -, hH⟩ := holdsK_of nz_len (by decide) h.t.row h0
    subst htv
    have eg : ∀ args w, (callFunc 25 args).run Tryz.prog w = .ok (.enter 25 args) w := fun args w => by kernel_rfl
    have hsz : T.toArray.size = T.length := by simp
    have hcon := AnyQ.slices_SortFunc Tryz.sortNmL 8 aggNm sizeNm nzEnc nz_len nz_one cmpNm swo_cmpNm 25 #[] g 0 cap T.toArray w eg (fun m os dk hd x y => cmpB_c x y _) hH hgl (by rw [hsz]; omega)
    rw [hsz] at hcon
    refine Calls.mono (show Calls Tryz.prog 27 _ w _ from hcon) ?_
    rintro e w' ⟨rfl, d', q, os, hp, hs, rfl⟩
    rw [← hsz] at hp hs
    exact ⟨rfl, (sort_below hgl).mono hg, d'.toList, h.sort os rfl hp, sorted_is hu hp hs, (perm_all hp).2⟩
end Go.Proofs.YtjeldfipipkfiaaGreat
