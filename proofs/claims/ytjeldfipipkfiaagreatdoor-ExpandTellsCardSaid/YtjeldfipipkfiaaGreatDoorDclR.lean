/- A growing row of declarations (api.Decl) in memory of the call's own. Plain Lean; no condition. -/
import Derived.Test.YtjeldfipipkfiaaGreatDoorGMem
import Derived.Test.YtjeldfipipkfiaaGreatDoorGScope
import Derived.Test.YtjeldfipipkfiaaGreatDoorGMent
namespace Go.Proofs.YtjeldfipipkfiaaGreatDoor
open Go.RowKit
set_option linter.unusedSimpArgs false
set_option linter.unusedVariables false
def flatK (f : Nat → Array Value) (n : Nat) : List Value := (List.range n).flatMap fun i => (f i).toList
theorem flatK_succ (f : Nat → Array Value) (n : Nat) : flatK f (n + 1) = flatK f n ++ (f n).toList := by simp [flatK, List.range_succ]
theorem flatK_len {K : Nat} {f : Nat → Array Value} : ∀ {n : Nat}, (∀ i, i < n → (f i).size = K) → (flatK f n).length = n * K
  | 0, _ => by simp [flatK]
  | n + 1, h => by
    rw [flatK_succ, List.length_append, flatK_len (n := n) (fun i hi => h i (by omega)), Array.length_toList, h n (by omega), Nat.succ_mul]
theorem flatK_get {K : Nat} {f : Nat → Array Value} : ∀ {n : Nat}, (∀ i, i < n → (f i).size = K) → ∀ i j, i < n → j < K → (flatK f n)[i * K + j]? = (f i)[j]?
  | 0, _, i, j, hi, _ => by omega
  | n + 1, h, i, j, hi, hj => by
    have hl := flatK_len (K := K) (f := f) (n := n) (fun i hi => h i (by omega))
    rw [flatK_succ]
    by_cases e : i = n
    · subst e
      rw [List.getElem?_append_right (by rw [hl]; omega), hl, Array.getElem?_toList]
      congr 1; omega
    · have : i * K + j < n * K := by
        have : (i + 1) * K ≤ n * K := Nat.mul_le_mul_right _ (by omega)
        rw [Nat.succ_mul] at this; omega
      rw [List.getElem?_append_left (by rw [hl]; exact this)]
      exact flatK_get (n := n) (fun i hi => h i (by omega)) i j (by omega) hj
theorem flatK_app (f f' : Nat → Array Value) (n : Nat) : ∀ m, flatK f n ++ flatK f' m = flatK (fun i => if i < n then f i else f' (i - n)) (n + m)
  | 0 => by
    simp only [flatK, List.range_zero, List.flatMap_nil, List.append_nil, Nat.add_zero]
    rw [List.flatMap_def, List.flatMap_def]
    congr 1
    apply List.map_congr_left
    intro i hi
    rw [if_pos (List.mem_range.1 hi)]
  | m + 1 => by
    rw [flatK_succ, ← List.append_assoc, flatK_app f f' n m, ← Nat.add_assoc, flatK_succ]
    congr 1
    rw [if_neg (by omega), Nat.add_sub_cancel_left]
theorem rows_src {K : Nat} {w : World} {B : Nat} {a : Addr} {n : Nat} {f : Nat → Array Value} (hK : 0 < K) (h : RowsK K w B (some a) n f) (hz : ∀ i, i < n → (f i).size = K) : ∀ j u, (flatK f n)[j]? = some u → w.cell? (a.add j) = some u := by
  intro j u hu
  have hj : j < n * K := by
    have := (List.getElem?_eq_some_iff.1 hu).1
    rwa [flatK_len hz] at this
  rcases h with rfl | ⟨b, o, hA, -, hc⟩
  · omega
  · cases hA
    have hi : j / K < n := Nat.div_lt_of_lt_mul (by rw [Nat.mul_comm]; exact hj)
    have hr : j % K < K := Nat.mod_lt _ hK
    have e : j / K * K + j % K = j := by rw [Nat.mul_comm]; exact Nat.div_add_mod j K
    rw [addN, ← e, ← Nat.add_assoc, hc _ hi _ (by rw [hz _ hi]; exact hr), ← flatK_get hz _ _ hi hr, e, hu]
theorem own_rows {K : Nat} {w : World} {base : Nat} {T : TypeId} {v : Value} {n : Nat} {f : Nat → Array Value} (h : w.ownsRow base T K v n (flatK f n)) (hz : ∀ i, i < n → (f i).size = K) :
    ∃ A cap, v = .slice A n cap ∧ n ≤ cap ∧ RowsK K w w.heap.size A n f := by
  obtain ⟨-, ⟨rfl, hn⟩ | ⟨g, cap, cur, rfl, hb, hh, hnc, hcm, hsz, htk⟩⟩ := h
  · exact ⟨none, 0, by rw [hn], by omega, .inl hn⟩
  · refine ⟨_, cap, rfl, hnc, .inr ⟨g, 0, rfl, (Array.getElem?_eq_some_iff.1 hh).1, fun i hi j hj => ?_⟩⟩
    rw [hz i hi] at hj
    have hlt : i * K + j < n * K := by
      have : (i + 1) * K ≤ n * K := Nat.mul_le_mul_right _ (by omega)
      rw [Nat.succ_mul] at this; omega
    rw [← flatK_get hz i j hi hj, ← htk, List.getElem?_take, if_pos hlt]
    simp [World.cell?, hh]
theorem flatK_one {K : Nat} {f : Nat → Array Value} {n : Nat} (h : ∀ i, i < n → ∀ u ∈ (f i).toList, u.oneCell' = true) : ∀ u ∈ flatK f n, u.oneCell' = true := by
  intro u hu
  obtain ⟨i, hi, hm⟩ := List.mem_flatMap.1 hu
  exact h i (List.mem_range.1 hi) u hm
end Go.Proofs.YtjeldfipipkfiaaGreatDoor
namespace Go.Proofs.YtjeldfipipkfiaaGreatDoor
open Go.RowKit
set_option linter.unusedSimpArgs false
set_option linter.unusedVariables false
theorem infoDcl : ((Tryz.prog).info? 45).map (fun i => (i.zero, i.size, i.bytes)) = some (some (.agg #[.int .i64 0, .string { data := #[] }, .int .i64 0, .string { data := #[] }, .int .i64 0, .string { data := #[] }, .string { data := #[] }, .slice none 0 0, .slice none 0 0]), 9, 136) := by kernel_rfl
theorem infoImp : ((Tryz.prog).info? 55).map (fun i => (i.zero, i.size, i.bytes)) = some (some (.agg #[.string { data := #[] }, .int .i64 0, .string { data := #[] }, .string { data := #[] }]), 4, 56) := by kernel_rfl
def DclM (w : World) (M : Nat → Prop) (d : Dcl) (cs : Array Value) : Prop := DclFits d ∧ ∃ na nc sa sc, cs = dclCells d na nc sa sc ∧ TyM w M d.ty (tyCells d.ty na nc sa sc)
theorem DclM.move {w w' : World} {M M' : Nat → Prop} {d : Dcl} {cs : Array Value} (h : DclM w M d cs) (hM : ∀ b, M b → M' b) (hk : ∀ p : Addr, M p.block → w'.cell? p = w.cell? p) : DclM w' M' d cs := by
  obtain ⟨h0, na, nc, sa, sc, h1, h2⟩ := h
  exact ⟨h0, na, nc, sa, sc, h1, h2.move hM hk⟩
theorem DclM.toC {w : World} {B : Nat} {d : Dcl} {cs : Array Value} (h : DclM w (· < B) d cs) : DclC w B d cs := by
  obtain ⟨h0, na, nc, sa, sc, h1, h2⟩ := h
  exact ⟨h0, na, nc, sa, sc, h1, h2.toC⟩
theorem DclM.size {w : World} {M : Nat → Prop} {d : Dcl} {cs : Array Value} (h : DclM w M d cs) : cs.size = 9 := by
  obtain ⟨h0, na, nc, sa, sc, rfl, h2⟩ := h; rfl
theorem DclM.one {w : World} {M : Nat → Prop} {d : Dcl} {cs : Array Value} (h : DclM w M d cs) : ∀ u ∈ cs.toList, u.oneCell' = true := by
  obtain ⟨h0, na, nc, sa, sc, rfl, h2⟩ := h
  simp [dclCells, Value.oneCell']
structure RowD (w : World) (base : Nat) (N : Nat → Prop) (sv : Value) (L : List Dcl) (F : List (Array Value)) : Prop where
  len : F.length = L.length
  row : w.ownsRow base 45 9 sv L.length (F.flatMap (·.toList))
  elems : ∀ i (h : i < L.length) (h' : i < F.length), DclM w (fun b => N b ∧ b < w.heap.size ∧ sv.ownBlock ≠ some b) L[i] F[i]
theorem RowD.nil (w : World) (base : Nat) (N : Nat → Prop) : RowD w base N (.slice none 0 0) [] [] := ⟨rfl, World.ownsRow_nil w _ _ _, fun i h => by simp at h⟩
theorem RowD.keep {w w' : World} {base : Nat} {N : Nat → Prop} {sv : Value} {L : List Dcl} {F : List (Array Value)} (h : RowD w base N sv L F) (hs : w.heap.size ≤ w'.heap.size) (hk : ∀ b, b < w.heap.size → (N b ∨ sv.ownBlock = some b) → w'.heap[b]? = w.heap[b]?) : RowD w' base N sv L F := by
  refine ⟨h.len, owns_keep h.row fun g hg => hk g (owns_lt h.row hg).2 (.inr hg), fun i h1 h2 => ?_⟩
  refine (h.elems i h1 h2).move (fun b hb => ⟨hb.1, Nat.lt_of_lt_of_le hb.2.1 hs, hb.2.2⟩) fun p hp => World.cell?_of_block (hk _ hp.2.1 (.inl hp.1))
theorem RowD.under {w w' : World} {base : Nat} {N : Nat → Prop} {sv : Value} {L : List Dcl} {F : List (Array Value)} (h : RowD w base N sv L F) (hb : Below w.heap.size w w') : RowD w' base N sv L F :=
  h.keep hb.size fun b hlt _ => hb.block b hlt
theorem RowD.push {w x3 x4 : World} {base g c : Nat} {N : Nat → Prop} {sv : Value} {L : List Dcl} {F : List (Array Value)} {d : Dcl} {cs : Array Value} (h : RowD w base N sv L F) (hs : w.heap.size ≤ x3.heap.size)
    (hk : ∀ b, b < w.heap.size → (N b ∨ sv.ownBlock = some b) → x3.heap[b]? = w.heap[b]?) (hd : DclM x3 (fun b => N b ∧ b < x3.heap.size ∧ sv.ownBlock ≠ some b) d cs)
    (hg : x3.grownBy x4 sv.ownBlock) (hown : x4.ownsRow base 45 9 (.slice (some ⟨g, 0, none⟩) (L.length + 1) c) (L.length + 1) (F.flatMap (·.toList) ++ cs.toList)) (hat : sv.ownBlock = some g ∨ g = x3.heap.size) :
    RowD x4 base N (.slice (some ⟨g, 0, none⟩) (L.length + 1) c) (L ++ [d]) (F ++ [cs]) := by
  have h3 := h.keep hs hk
  have hne : ∀ b, b < x3.heap.size → sv.ownBlock ≠ some b → (Value.slice (some ⟨g, 0, none⟩) (L.length + 1) c).ownBlock ≠ some b := by
    intro b hb hn e
    have e : g = b := by simpa [Value.ownBlock] using e
    subst e
    rcases hat with h | h
    · exact hn h
    · omega
  have hmv : ∀ {d : Dcl} {cs : Array Value}, DclM x3 (fun b => N b ∧ b < x3.heap.size ∧ sv.ownBlock ≠ some b) d cs → DclM x4 (fun b => N b ∧ b < x4.heap.size ∧ (Value.slice (some ⟨g, 0, none⟩) (L.length + 1) c).ownBlock ≠ some b) d cs :=
    fun h => h.move (fun b hb => ⟨hb.1, Nat.lt_of_lt_of_le hb.2.1 hg.size, hne b hb.2.1 hb.2.2⟩) fun p hp => World.cell?_of_block (hg.block _ hp.2.1 (fun e => hp.2.2 e.symm))
  refine ⟨by simp [h.len], ?_, fun i h1 h2 => ?_⟩
  · rw [List.flatMap_append, List.length_append]
    simpa using hown
  · by_cases e : i < L.length
    · have e2 : i < F.length := by rw [h.len]; exact e
      rw [List.getElem_append_left e, List.getElem_append_left e2]
      exact hmv (h3.elems i e e2)
    · have e1 : i = L.length := by simp at h1; omega
      subst e1
      rw [List.getElem_append_right (by omega), List.getElem_append_right (by rw [h.len]; omega)]
      simp
      exact hmv hd
theorem RowD.at {w : World} {base : Nat} {N : Nat → Prop} {sv : Value} {L : List Dcl} {F : List (Array Value)} (h : RowD w base N sv L F) : ∃ A c, sv = .slice A L.length c ∧ L.length ≤ c ∧ DclsAt w w.heap.size A L := by
  have hz : ∀ i, i < L.length → ((fun i => F.getD i #[]) i).size = 9 := fun i hi => by
    have h2 : i < F.length := by rw [h.len]; exact hi
    show (F.getD i #[]).size = 9
    rw [List.getD_eq_getElem?_getD, List.getElem?_eq_getElem h2]
    exact (h.elems i hi h2).size
  have e : F.flatMap (·.toList) = flatK (fun i => F.getD i #[]) L.length := by
    rw [flatK, ← h.len, List.flatMap_def, List.flatMap_def]
    congr 1
    refine List.ext_getElem (by simp) fun i h1 h2 => ?_
    simp at h1
    simp [h1]
  have hr := h.row
  rw [e] at hr
  obtain ⟨A, c, h1, h2, h3⟩ := own_rows hr hz
  refine ⟨A, c, h1, h2, _, h3, fun i hi => ?_⟩
  have h2 : i < F.length := by rw [h.len]; exact hi
  have := h.elems i hi h2
  show DclC w w.heap.size L[i] (F.getD i #[])
  rw [show F.getD i #[] = F[i] by simp [h2]]
  exact (this.move (fun b hb => hb.2.1) fun _ _ => rfl).toC
end Go.Proofs.YtjeldfipipkfiaaGreatDoor
