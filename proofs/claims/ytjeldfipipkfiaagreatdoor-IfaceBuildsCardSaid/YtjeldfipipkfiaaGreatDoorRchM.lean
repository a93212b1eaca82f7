/- The names that are reached, put in one by one at their places, are the names mentioned, sorted. Plain Lean. -/
import Derived.Test.YtjeldfipipkfiaaGreatDoorMenM
namespace Go.Proofs.YtjeldfipipkfiaaGreatDoor
open Go.RowKit
set_option linter.unusedSimpArgs false
set_option linter.unusedVariables false
structure MInv (ds : List Dcl) (t : Ty) (k : Nat) (l : List ByteArray) : Prop where
  rise : riseB l = true
  mem : ∀ s, s ∈ l ↔ ∃ i, ∃ h : i < ds.length, i < k ∧ reachF ds t i = true ∧ ds[i].name = s
  len : l.length ≤ k
theorem MInv.init (ds : List Dcl) (t : Ty) : MInv ds t 0 [] := ⟨rfl, fun s => ⟨fun h => (by cases h), fun ⟨i, _, h, _⟩ => absurd h (by omega)⟩, Nat.le_refl _⟩
theorem MInv.skip {ds : List Dcl} {t : Ty} {k : Nat} {l : List ByteArray} (h : MInv ds t k l) (hr : reachF ds t k = false) : MInv ds t (k + 1) l := by
  refine ⟨h.rise, fun s => ?_, by have := h.len; omega⟩
  rw [h.mem s]
  constructor
  · rintro ⟨i, hi, h1, h2⟩
    exact ⟨i, hi, by omega, h2⟩
  · rintro ⟨i, hi, h1, h2, h3⟩
    refine ⟨i, hi, ?_, h2, h3⟩
    have : i ≠ k := fun e => by subst e; rw [hr] at h2; cases h2
    omega
theorem reach_find {ds : List Dcl} {t : Ty} {k : Nat} (hk : k < ds.length) (h : reachF ds t k = true) : findD ds ds[k].name = some k := by
  obtain ⟨s, -, hf⟩ := reachF_iff.1 h
  obtain ⟨_, hn, -⟩ := findD_name hf
  rw [hn]; exact hf
theorem riseB_pair {l : List ByteArray} (h : riseB l = true) : l.Pairwise fun a b => ltB a b = true := by
  rw [riseB_iff] at h
  rw [List.pairwise_iff_getElem]
  intro i j hi hj hij
  have key : ∀ d i (hd : i + d + 1 < l.length), ltB l[i] l[i + d + 1] = true := by
    intro d
    induction d with
    | zero => intro i hd; exact h i hd
    | succ d ih => intro i hd; exact ltB_trans (ih i (by omega)) (h (i + d + 1) (by omega))
  have e : j = i + (j - i - 1) + 1 := by omega
  have := key (j - i - 1) i (by omega)
  simp only [← e] at this
  exact this
theorem riseB_of {l : List ByteArray} (h : l.Pairwise fun a b => ltB a b = true) : riseB l = true := by
  rw [riseB_iff]
  intro i hi
  exact List.pairwise_iff_getElem.1 h i (i + 1) (by omega) hi (by omega)
theorem ltB_oth' {a b : ByteArray} (h : ¬ ltB a b = true) (hne : a ≠ b) : ltB b a = true := by
  have := less_total a.toList b.toList
  have hab : Op.bytesLess a.toList b.toList = false := by simpa [ltB] using h
  have hb : (b.toList == a.toList) = false := by rw [ba_eq]; simpa using Ne.symm hne
  rw [hab, hb] at this
  simpa [ltB] using this
theorem MInv.put {ds : List Dcl} {t : Ty} {k a : Nat} {l : List ByteArray} (h : MInv ds t k l) (hk : k < ds.length) (hr : reachF ds t k = true) (ha : a ≤ l.length)
    (h1 : ∀ i (hi : i < l.length), i < a → ltB l[i] ds[k].name = true) (h2 : ∀ hi : a < l.length, ltB l[a] ds[k].name = false) : MInv ds t (k + 1) (l.take a ++ ds[k].name :: l.drop a) := by
  have hmem : ∀ s, s ∈ l.take a ++ ds[k].name :: l.drop a ↔ s ∈ l ∨ s = ds[k].name := fun s => by
    rw [List.mem_append, List.mem_cons]
    conv => rhs; rw [← List.take_append_drop a l, List.mem_append]
    constructor
    · rintro (h | h | h)
      · exact .inl (.inl h)
      · exact .inr h
      · exact .inl (.inr h)
    · rintro ((h | h) | h)
      · exact .inl h
      · exact .inr (.inr h)
      · exact .inr (.inl h)
  have hnew : ds[k].name ∉ l := fun hx => by
    obtain ⟨i, hi, h3, h4, h5⟩ := (h.mem _).1 hx
    have e1 := reach_find hi h4
    rw [h5, reach_find hk hr] at e1
    injection e1 with e1
    omega
  refine ⟨riseB_of ?_, fun s => ?_, ?_⟩
  · have hp := riseB_pair h.rise
    have hp' := hp
    rw [← List.take_append_drop a l, List.pairwise_append] at hp
    rw [List.pairwise_append, List.pairwise_cons]
    have htk : ∀ x ∈ l.take a, ltB x ds[k].name = true := fun x hx => by
      obtain ⟨i, hi, rfl⟩ := List.getElem_of_mem hx
      rw [List.length_take] at hi
      rw [List.getElem_take]
      exact h1 i (by omega) (by omega)
    have hdr : ∀ x ∈ l.drop a, ltB ds[k].name x = true := fun x hx => by
      by_cases hal : a < l.length
      · have hla : ltB ds[k].name l[a] = true := ltB_oth' (by rw [h2 hal]; decide) (fun e => hnew (e ▸ List.getElem_mem hal))
        obtain ⟨i, hi, rfl⟩ := List.getElem_of_mem hx
        rw [List.length_drop] at hi
        rw [List.getElem_drop]
        cases i with
        | zero => exact hla
        | succ i => exact ltB_trans hla (List.pairwise_iff_getElem.1 hp' a (a + (i + 1)) hal (by omega) (by omega))
      · rw [List.drop_eq_nil_of_le (by omega)] at hx; cases hx
    refine ⟨hp.1, ⟨hdr, hp.2.1⟩, fun x hx y hy => ?_⟩
    rcases List.mem_cons.1 hy with rfl | hy
    · exact htk x hx
    · exact hp.2.2 x hx y hy
  · rw [hmem, h.mem]
    constructor
    · rintro (⟨i, hi, h3, h4⟩ | rfl)
      · exact ⟨i, hi, by omega, h4⟩
      · exact ⟨k, hk, by omega, hr, rfl⟩
    · rintro ⟨i, hi, h3, h4, h5⟩
      by_cases e : i = k
      · subst e; exact .inr h5.symm
      · exact .inl ⟨i, hi, by omega, h4, h5⟩
  · have := h.len
    simp only [List.length_append, List.length_cons, List.length_take, List.length_drop]
    omega
theorem sortN_rise {l : List ByteArray} (h : l.Nodup) : riseB (sortN l) = true := by
  refine rise_of_lt _ ?_
  have h1 := List.pairwise_mergeSort (le := fun x y : List UInt8 => decide (x ≤ y)) (fun a b c h1 h2 => by simp only [decide_eq_true_eq] at *; exact List.le_trans h1 h2) (fun a b => by
    rcases List.le_total a b with h | h <;> simp [h]) (uL l)
  have hn : (uL l).Nodup := by
    rw [uL, List.nodup_iff_pairwise_ne, List.pairwise_map]
    exact (List.nodup_iff_pairwise_ne.1 h).imp fun hab e => hab (by
      rename_i a b
      cases a; cases b
      simp_all)
  have h2 : ((uL l).mergeSort fun x y => decide (x ≤ y)).Nodup := (List.mergeSort_perm _ _).nodup_iff.2 hn
  exact (h1.and (List.nodup_iff_pairwise_ne.1 h2)).imp fun ⟨h3, h4⟩ => Std.lt_of_le_of_ne (by simpa using h3) h4
theorem MInv.out {ds : List Dcl} {t : Ty} {l : List ByteArray} (h : MInv ds t ds.length l) : l = sortN (mentF ds t) := by
  refine rise_eq h.rise (sortN_rise (mentF_law ds t).1) fun s => ?_
  rw [h.mem, sortN, mem_uB, List.mem_mergeSort, mem_uL, (mentF_law ds t).2 s]
  constructor
  · rintro ⟨i, hi, -, h4, rfl⟩
    obtain ⟨s, hs, hf⟩ := reachF_iff.1 h4
    obtain ⟨_, hn, -⟩ := findD_name hf
    rw [hn]; exact hs
  · intro hs
    obtain ⟨i, hf⟩ := Option.isSome_iff_exists.1 (rch_has hs)
    obtain ⟨hi, hn, -⟩ := findD_name hf
    exact ⟨i, hi, hi, reachF_iff.2 ⟨s, hs, hf⟩, hn⟩
end Go.Proofs.YtjeldfipipkfiaaGreatDoor
