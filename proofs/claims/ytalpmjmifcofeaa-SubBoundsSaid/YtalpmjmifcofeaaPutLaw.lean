/- What merlonref09.put does to a rising row: plain Lean. -/
import Derived.Test.YtalpmjmifcofeaaRPutA
import Derived.Test.YtalpmjmifcofeaaLubLaw
namespace Go.Proofs.Ytalpmjmifcofeaa
set_option linter.unusedSimpArgs false
set_option linter.unusedVariables false
theorem fold_true (s : ByteArray) (x : Ty) : ∀ (l A : List (ByteArray × Ty)), l.foldl (putStep s x) (true, A) = (true, A ++ l)
  | [], A => by simp
  | q :: l, A => by
    rw [List.foldl_cons, putStep, if_neg (by simp), fold_true s x l]
    simp
def putG (s : ByteArray) (x : Ty) (A l : List (ByteArray × Ty)) : List (ByteArray × Ty) :=
  if (l.foldl (putStep s x) (false, A)).1 = true then (l.foldl (putStep s x) (false, A)).2 else (l.foldl (putStep s x) (false, A)).2 ++ [(s, x)]
theorem putF_eq (s : ByteArray) (x : Ty) (l : List (ByteArray × Ty)) : putF s x l = putG s x [] l := by
  unfold putF putG putAt
  rw [List.take_length]
theorem putG_cons (s : ByteArray) (x : Ty) (A : List (ByteArray × Ty)) (q : ByteArray × Ty) (l : List (ByteArray × Ty)) :
    putG s x A (q :: l) = if ltB s q.1 = true then A ++ (s, x) :: q :: l else putG s x (A ++ [q]) l := by
  unfold putG
  rw [List.foldl_cons]
  by_cases h : ltB s q.1 = true
  · have e : putStep s x (false, A) q = (true, A ++ [(s, x)] ++ [q]) := by rw [putStep, if_pos (by simp [h])]
    rw [e, fold_true, if_pos rfl, if_pos h]
    simp
  · have e : putStep s x (false, A) q = (false, A ++ [q]) := by rw [putStep, if_neg (by simp [h])]
    rw [e, if_neg h]
theorem lt_other {a b : ByteArray} (h : ¬ ltB a b = true) (hne : a ≠ b) : ltB b a = true := by
  unfold ltB at *
  rw [bytesLess_eq] at *
  simp only [decide_eq_true_eq] at *
  have h1 : b.toList ≤ a.toList := Std.not_lt.1 h
  refine Std.lt_of_le_of_ne h1 fun e => hne ?_
  rw [ByteArray.toList_eq, ByteArray.toList_eq] at e
  cases a; cases b
  simp at e
  rw [e]
theorem putG_mem (s : ByteArray) (x : Ty) : ∀ (l A : List (ByteArray × Ty)) (p : ByteArray × Ty), p ∈ putG s x A l ↔ p ∈ A ∨ p = (s, x) ∨ p ∈ l
  | [], A, p => by simp [putG]
  | q :: l, A, p => by
    rw [putG_cons]
    split
    · simp [List.mem_append]
    · rw [putG_mem s x l]
      rw [List.mem_append, List.mem_singleton, List.mem_cons]
      constructor
      · rintro ((h | h) | h | h)
        · exact .inl h
        · exact .inr (.inr (.inl h))
        · exact .inr (.inl h)
        · exact .inr (.inr (.inr h))
      · rintro (h | h | h | h)
        · exact .inl (.inl h)
        · exact .inr (.inl h)
        · exact .inl (.inr h)
        · exact .inr (.inr h)
theorem putG_rise (s : ByteArray) (x : Ty) : ∀ (l A : List (ByteArray × Ty)), (A ++ l).Pairwise (fun p q => ltB p.1 q.1 = true) → (∀ p ∈ A, ltB p.1 s = true) → (∀ p ∈ l, p.1 ≠ s) → (putG s x A l).Pairwise (fun p q => ltB p.1 q.1 = true)
  | [], A, hp, hA, _ => by
    simp only [putG, List.foldl_nil, Bool.false_eq_true, if_false]
    rw [List.append_nil] at hp
    refine List.pairwise_append.2 ⟨hp, by simp, fun p h q hq => ?_⟩
    rw [List.mem_singleton] at hq
    subst hq
    exact hA p h
  | q :: l, A, hp, hA, hn => by
    rw [putG_cons]
    split
    · rename_i h
      obtain ⟨h1, h2, h3⟩ := List.pairwise_append.1 hp
      refine List.pairwise_append.2 ⟨h1, List.pairwise_cons.2 ⟨fun p hpq => ?_, h2⟩, fun p hpA r hr => ?_⟩
      · rcases List.mem_cons.1 hpq with rfl | hpl
        · exact h
        · exact ltB_trans h ((List.pairwise_cons.1 h2).1 p hpl)
      · rcases List.mem_cons.1 hr with rfl | hr
        · exact hA p hpA
        · exact h3 p hpA r hr
    · rename_i h
      refine putG_rise s x l (A ++ [q]) (by simpa using hp) (fun p hpA => ?_) fun p hpl => hn p (List.mem_cons_of_mem _ hpl)
      rcases List.mem_append.1 hpA with hpA | hpA
      · exact hA p hpA
      · rw [List.mem_singleton] at hpA
        subst hpA
        exact lt_other h fun e => hn p (by simp) e.symm
theorem rise_pairs (l : List (ByteArray × Ty)) : riseB (l.map (·.1)) = true ↔ l.Pairwise (fun p q => ltB p.1 q.1 = true) := by
  rw [rise_pair, List.pairwise_map]
theorem putF_mem (s : ByteArray) (x : Ty) (l : List (ByteArray × Ty)) (p : ByteArray × Ty) : p ∈ putF s x l ↔ p = (s, x) ∨ p ∈ l := by
  rw [putF_eq, putG_mem]
  simp
theorem putF_rise (s : ByteArray) (x : Ty) (l : List (ByteArray × Ty)) (h : riseB (l.map (·.1)) = true) (hn : ∀ p ∈ l, p.1 ≠ s) : riseB ((putF s x l).map (·.1)) = true := by
  rw [rise_pairs] at h ⊢
  rw [putF_eq]
  exact putG_rise s x l [] (by simpa using h) (fun p hp => by simp at hp) hn
end Go.Proofs.Ytalpmjmifcofeaa
