/- The names of two rows, rising, each once: what slices.Sort and slices.Compact leave. -/
import Derived.Test.YtjeldfipipkfiaaGreatDoorShelfW
import Derived.Test.YtjeldfipipkfiaaGreatDoorOrdLaw
namespace Go.Proofs.YtjeldfipipkfiaaGreatDoor
open Go.RowKit Go.Sort
set_option linter.unusedSimpArgs false
set_option linter.unusedVariables false
def uL (l : List ByteArray) : List (List UInt8) := l.map (·.data.toList)
def uB (l : List (List UInt8)) : List ByteArray := l.map fun x => ⟨x.toArray⟩
theorem enc_uL (l : List ByteArray) : (uL l).map encStr = l.map Value.string := Lib.map_encStr l
theorem uL_uB (l : List (List UInt8)) : uL (uB l) = l := by
  unfold uL uB
  rw [List.map_map]
  exact (List.map_congr_left (fun x _ => by simp)).trans (List.map_id _)
theorem uB_uL (l : List ByteArray) : uB (uL l) = l := by
  unfold uL uB
  rw [List.map_map]
  exact (List.map_congr_left (fun x _ => by cases x; simp)).trans (List.map_id _)
theorem enc_uB (l : List (List UInt8)) : (uB l).map Value.string = l.map encStr := by rw [← enc_uL, uL_uB]
theorem uL_len (l : List ByteArray) : (uL l).length = l.length := List.length_map ..
theorem uB_len (l : List (List UInt8)) : (uB l).length = l.length := List.length_map ..
theorem mem_uL {x : ByteArray} {l : List ByteArray} : x.data.toList ∈ uL l ↔ x ∈ l := by
  constructor
  · intro h
    obtain ⟨y, hy, e⟩ := List.mem_map.1 h
    have : y = x := by cases x; cases y; simp_all
    exact this ▸ hy
  · exact fun h => List.mem_map.2 ⟨x, h, rfl⟩
theorem mem_uB {x : ByteArray} {l : List (List UInt8)} : x ∈ uB l ↔ x.data.toList ∈ l := by rw [← mem_uL, uL_uB]
def sortN (l : List ByteArray) : List ByteArray := uB ((uL l).mergeSort fun x y => decide (x ≤ y))
def compN (l : List ByteArray) : List ByteArray := uB (Lib.compact (uL l))
def unionN (l l' : List ByteArray) : List ByteArray := compN (sortN (l ++ l'))
theorem sortN_len (l : List ByteArray) : (sortN l).length = l.length := by rw [sortN, uB_len, List.length_mergeSort, uL_len]
theorem compN_len (l : List ByteArray) : (compN l).length ≤ l.length := by rw [compN, uB_len, ← uL_len l]; exact Lib.compact_length_le _
theorem unionN_len (l l' : List ByteArray) : (unionN l l').length ≤ l.length + l'.length := by
  have := compN_len (sortN (l ++ l'))
  rw [sortN_len, List.length_append] at this
  exact this
theorem compact_mem (zs : List (List UInt8)) (x : List UInt8) : x ∈ Lib.compact zs ↔ x ∈ zs := by
  unfold Lib.compact Lib.compactUpTo
  constructor
  · intro h
    obtain ⟨j, hj, rfl⟩ := List.mem_map.1 h
    have hj' := List.mem_range.1 (List.mem_filter.1 hj).1
    simp [hj']
  · intro h
    obtain ⟨i, hi, rfl⟩ := List.getElem_of_mem h
    have key : ∀ i (hi : i < zs.length), zs[i] ∈ ((List.range zs.length).filter (Lib.keeps zs.toArray)).map (zs.toArray[·]!) := by
      intro i
      induction i with
      | zero =>
        intro hi
        exact List.mem_map.2 ⟨0, List.mem_filter.2 ⟨List.mem_range.2 hi, by simp [Lib.keeps]⟩, by simp [hi]⟩
      | succ i ih =>
        intro hi
        by_cases e : zs[i + 1] = zs[i]
        · rw [e]; exact ih (by omega)
        · refine List.mem_map.2 ⟨i + 1, List.mem_filter.2 ⟨List.mem_range.2 hi, ?_⟩, by simp [hi]⟩
          simp [Lib.keeps, hi, show i < zs.length by omega, e]
    exact key i hi
theorem compact_lt (zs : List (List UInt8)) (h : zs.Pairwise fun x y => x ≤ y) : (Lib.compact zs).Pairwise fun x y => x < y := by
  unfold Lib.compact Lib.compactUpTo
  rw [List.pairwise_map]
  refine List.Pairwise.imp_of_mem ?_ (List.Pairwise.filter _ List.pairwise_lt_range)
  intro i j hi hj hij
  have hi' := List.mem_range.1 (List.mem_filter.1 hi).1
  have hj' := List.mem_range.1 (List.mem_filter.1 hj).1
  have hk := (List.mem_filter.1 hj).2
  have hne : zs[j] ≠ zs[j - 1] := by
    simp [Lib.keeps, hj', show j - 1 < zs.length by omega] at hk
    rcases hk with hk | hk
    · omega
    · exact hk
  have hle : zs[j - 1] ≤ zs[j] := List.pairwise_iff_getElem.1 h (j - 1) j (by omega) hj' (by omega)
  have h1 : zs[j - 1] < zs[j] := Std.lt_of_le_of_ne hle (Ne.symm hne)
  have h2 : zs[i] ≤ zs[j - 1] := by
    by_cases e : i = j - 1
    · subst e; exact List.le_refl _
    · exact List.pairwise_iff_getElem.1 h i (j - 1) hi' (by omega) (by omega)
  simp only [List.getElem!_toArray, List.getElem!_eq_getElem?_getD, List.getElem?_eq_getElem hi', List.getElem?_eq_getElem hj', Option.getD_some]
  exact List.lt_of_le_of_lt h2 h1
theorem rise_of_lt : ∀ (l : List (List UInt8)), l.Pairwise (fun x y => x < y) → riseB (uB l) = true := by
  intro l h
  rw [riseB_iff]
  intro i hi
  have hl : (uB l).length = l.length := uB_len l
  have h1 := List.pairwise_iff_getElem.1 h i (i + 1) (by omega) (by omega) (by omega)
  have e : ∀ j (hj : j < (uB l).length), (uB l)[j].toList = l[j]'(by omega) := fun j hj => by
    simp [uB]
  rw [ltB, e, e, bytesLess_eq]
  simpa using h1
theorem unionN_rise (l l' : List ByteArray) : riseB (unionN l l') = true := by
  refine rise_of_lt _ (compact_lt _ ?_)
  rw [sortN, uL_uB]
  have := List.pairwise_mergeSort (le := fun x y : List UInt8 => decide (x ≤ y)) (fun a b c h1 h2 => by simp only [decide_eq_true_eq] at *; exact List.le_trans h1 h2) (fun a b => by
    rcases List.le_total a b with h | h <;> simp [h]) (uL (l ++ l'))
  exact this.imp fun h => by simpa using h
theorem unionN_mem (l l' : List ByteArray) (x : ByteArray) : x ∈ unionN l l' ↔ x ∈ l ∨ x ∈ l' := by
  rw [unionN, compN, mem_uB, compact_mem, sortN, uL_uB, List.mem_mergeSort, mem_uL, List.mem_append]
theorem sortU_c {base n : Nat} {v : Value} {l : List ByteArray} {w w0 : World} (h : w.ownsRow base 9 1 v n (l.map Value.string)) (hb : Below base w0 w) (hn : n ≤ 1000000) :
    Calls Tryz.prog 55 #[v] w fun e w' => e = .returned (.tuple #[]) ∧ w'.ownsRow base 9 1 v n ((sortN l).map Value.string) ∧ Below base w0 w' := by
  by_cases hv : v = .slice none 0 0
  · subst hv
    refine (sort0_c none 0 w).mono ?_
    rintro e w' ⟨rfl, rfl⟩
    have h0 : n = 0 := by
      rcases h.2 with ⟨-, h0⟩ | ⟨g, cap, cur, h0, -⟩
      · exact h0
      · simp at h0
    have hl : l = [] := by have := h.1; simp [h0] at this; exact this
    subst hl
    exact ⟨rfl, by rw [sortN]; simpa [uL, uB] using h, hb⟩
  · rw [← enc_uL] at h
    obtain ⟨g, cap, rfl, hbg, hgl, hnc, hcm, hlen, hH⟩ := Lib.holds_of_ownsRow h hv
    subst hlen
    refine (sort_c g 0 cap (uL l) w hH hgl (by omega)).mono ?_
    rintro e w' ⟨rfl, nn, os, rfl⟩
    obtain ⟨-, ⟨h0, -⟩ | ⟨g', cap', cur, h0, h1, h2, h3, h4, h5, -⟩⟩ := h
    · cases h0
    cases h0
    refine ⟨rfl, ?_, hb.grown (grownBy_sorted _) (by omega) (fun j hj => by cases hj; exact hbg)⟩
    rw [sortN, enc_uB]
    exact ownsRow_sorted (List.length_mergeSort _) hbg h2 h3 h4 h5
theorem compU_c {base n : Nat} {v : Value} {l : List ByteArray} {w w0 : World} (h : w.ownsRow base 9 1 v n (l.map Value.string)) (hb : Below base w0 w) (hn : n ≤ 1000000) :
    Calls Tryz.prog 204 #[v] w fun e w' => ∃ v', e = .returned v' ∧ w'.ownsRow base 9 1 v' (compN l).length ((compN l).map Value.string) ∧ Below base w0 w' := by
  by_cases hv : v = .slice none 0 0
  · subst hv
    refine (comp0_c none 0 w).mono ?_
    rintro e w' ⟨rfl, rfl⟩
    have h0 : n = 0 := by
      rcases h.2 with ⟨-, h0⟩ | ⟨g, cap, cur, h0, -⟩
      · exact h0
      · simp at h0
    have hl : l = [] := by have := h.1; simp [h0] at this; exact this
    subst hl
    exact ⟨_, rfl, by rw [compN]; exact World.ownsRow_nil _ _ _ _, hb⟩
  · rw [← enc_uL] at h
    obtain ⟨g, cap, rfl, hbg, hgl, hnc, hcm, hlen, hH⟩ := Lib.holds_of_ownsRow h hv
    subst hlen
    refine (comp_c g 0 cap (uL l) w hH (by omega) hnc).mono ?_
    rintro e w' ⟨rfl, q, rfl⟩
    have hle := Lib.compact_length_le (uL l)
    have hc := Lib.ownsRow_putRow (q := q) (k := (Lib.compact (uL l)).length) (ys := Lib.compact (uL l) ++ List.replicate ((uL l).length - (Lib.compact (uL l)).length) []) h (by simp; omega) (by omega)
    rw [List.take_left] at hc
    refine ⟨_, rfl, ?_, Lib.below_putRow hb hbg⟩
    rw [compN, enc_uB, uB_len]
    exact hc
end Go.Proofs.YtjeldfipipkfiaaGreatDoor
