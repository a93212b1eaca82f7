/- The order of types, in plain Lean: a type stands for itself; what stands for what stands for a third stands for that; of two that stand for one another both are the same. No program in sight. -/
import Derived.Test.YtjeldfipipkfiaaGreatDoorSubSub
namespace Go.Proofs.YtjeldfipipkfiaaGreatDoor
set_option linter.unusedSimpArgs false
set_option linter.unusedVariables false
theorem cover_iff (r : Ty → Ty → Bool) (a : Ty) : ∀ (ns : List ByteArray) (ss : List Ty), coverL r a ns ss = true ↔ ∀ k (h : k < ns.length) (h' : k < ss.length), memB ns[k] a.names = true ∧ r (ofT a ns[k]) ss[k] = true
  | [], _ => by simp [coverL]
  | _ :: _, [] => by simp [coverL]
  | n :: ns, s :: ss => by
    rw [coverL, Bool.and_eq_true, Bool.and_eq_true, cover_iff r a ns ss]
    constructor
    · rintro ⟨⟨h1, h2⟩, h3⟩ k h h'
      cases k with
      | zero => exact ⟨h1, h2⟩
      | succ k => exact h3 k (by simpa using h) (by simpa using h')
    · intro h
      exact ⟨h 0 (by simp) (by simp), fun k hk hk' => h (k + 1) (by simpa using hk) (by simpa using hk')⟩
theorem first_get : ∀ {l : List ByteArray} {s : ByteArray} (h : memB s l = true), l[firstOf l s]'(firstOf_lt h) = s
  | [], _, h => by simp [memB] at h
  | x :: l, s, h => by
    by_cases e : x = s
    · simp [firstOf, e]
    · have h' : memB s l = true := by simpa [memB, e] using h
      have := first_get h'
      simp only [firstOf, if_neg e, List.getElem_cons_succ]
      exact this
theorem rise_inj {l : List ByteArray} (h : riseB l = true) {i j : Nat} (hi : i < l.length) (hj : j < l.length) (e : l[i] = l[j]) : i = j := by
  rcases Nat.lt_trichotomy i j with hij | hij | hij
  · have := rise_lt h i j hij hj
    rw [e, ltB_irrefl] at this
    exact absurd this (by decide)
  · exact hij
  · have := rise_lt h j i hij hi
    rw [e, ltB_irrefl] at this
    exact absurd this (by decide)
theorem mem_at {l : List ByteArray} {i : Nat} (hi : i < l.length) : memB l[i] l = true := (memB_iff _ _).2 (List.getElem_mem hi)
theorem first_at {l : List ByteArray} (h : riseB l = true) {i : Nat} (hi : i < l.length) : firstOf l l[i] = i :=
  rise_inj h (firstOf_lt (mem_at hi)) hi (first_get (mem_at hi))
theorem ofT_idx {t : Ty} (h : RowsOk t) {i : Nat} (hi : i < t.names.length) : ofT t t.names[i] = t.subs[i]'(Nat.lt_of_lt_of_le hi h.len) := by
  have hl := h.len
  rw [ofT, if_pos (mem_at hi), first_at h.rise hi, getD_at (by omega)]
theorem subF_kind {n : Nat} {a b : Ty} (h : subF (n + 1) a b = true) : a.kind = b.kind := by
  by_cases hk : a.kind = b.kind
  · exact hk
  · rw [subF, if_neg hk] at h
    exact absurd h (by decide)
theorem args_iff (r : Ty → Ty → Bool) (xs ys : List Ty) (n : Nat) : argsB r xs ys n = true ↔ ∀ i, i < n → r (ys.getD i zeroTy) (xs.getD i zeroTy) = true := by
  simp [argsB, List.all_eq_true]
theorem func_iff (r : Ty → Ty → Bool) (xs ys : List Ty) : funcB r xs ys = true ↔ xs.length = ys.length ∧ r (xs.getD (xs.length - 1) zeroTy) (ys.getD (xs.length - 1) zeroTy) = true ∧ ∀ i, i < xs.length - 1 → r (ys.getD i zeroTy) (xs.getD i zeroTy) = true := by
  rw [funcB, Bool.and_eq_true, Bool.and_eq_true, decide_eq_true_eq, args_iff]
theorem deep_le {t s : Ty} {n : Nat} (h : deepT t ≤ n + 1) (hs : s ∈ t.subs) : deepT s ≤ n := by
  have := deep_child hs
  omega
theorem getD_mem {l : List Ty} {i : Nat} (h : i < l.length) : l.getD i zeroTy ∈ l := by rw [getD_at h]; exact List.getElem_mem h
theorem sub_refl : ∀ (n : Nat) (a : Ty), mayT a = true → deepT a ≤ n → subF n a a = true
  | 0, a, _, hd => by have := deep_bound a; omega
  | n + 1, a, hm, hd => by
    have IH : ∀ s, s ∈ a.subs → subF n s s = true := fun s hs => sub_refl n s (may_child hm hs) (deep_le hd hs)
    rw [subF, if_pos rfl]
    by_cases h4 : a.kind = 4
    · rw [if_pos h4]
      exact IH _ (getD_mem (by rw [may_list hm h4]; decide))
    rw [if_neg h4]
    by_cases h5 : a.kind = 5
    · rw [if_pos h5, cover_iff]
      intro k h h'
      have hr := may_rows hm (.inl h5)
      refine ⟨mem_at h, ?_⟩
      rw [ofT_idx hr h]
      exact IH _ (List.getElem_mem _)
    rw [if_neg h5]
    by_cases h6 : a.kind = 6
    · rw [if_pos h6, cover_iff]
      intro k h h'
      have hr := may_rows hm (.inr h6)
      refine ⟨mem_at h, ?_⟩
      rw [ofT_idx hr h]
      exact IH _ (List.getElem_mem _)
    rw [if_neg h6]
    by_cases h7 : a.kind = 7
    · rw [if_pos h7, func_iff]
      have := may_func hm h7
      exact ⟨rfl, IH _ (getD_mem (by omega)), fun i hi => IH _ (getD_mem (by omega))⟩
    rw [if_neg h7]
    exact (alike_iff a a).2 rfl
theorem sub_trans : ∀ (n : Nat) (a b c : Ty), mayT a = true → mayT b = true → mayT c = true → deepT a ≤ n → deepT b ≤ n → deepT c ≤ n → subF n a b = true → subF n b c = true → subF n a c = true
  | 0, a, _, _, _, _, _, hd, _, _, _, _ => by have := deep_bound a; omega
  | n + 1, a, b, c, ma, mb, mc, da, db, dc, hab, hbc => by
    have IH : ∀ x y z, x ∈ a.subs → y ∈ b.subs → z ∈ c.subs → subF n x y = true → subF n y z = true → subF n x z = true := fun x y z hx hy hz =>
      sub_trans n x y z (may_child ma hx) (may_child mb hy) (may_child mc hz) (deep_le da hx) (deep_le db hy) (deep_le dc hz)
    have IR : ∀ x y z, x ∈ a.subs → y ∈ b.subs → z ∈ c.subs → subF n z y = true → subF n y x = true → subF n z x = true := fun x y z hx hy hz =>
      sub_trans n z y x (may_child mc hz) (may_child mb hy) (may_child ma hx) (deep_le dc hz) (deep_le db hy) (deep_le da hx)
    have k1 := subF_kind hab
    have k2 := subF_kind hbc
    rw [subF, if_pos k1] at hab
    rw [subF, if_pos k2] at hbc
    rw [subF, if_pos (k1.trans k2)]
    by_cases h4 : a.kind = 4
    · rw [if_pos h4] at hab ⊢
      rw [if_pos (k1 ▸ h4)] at hbc
      exact IH _ _ _ (getD_mem (by rw [may_list ma h4]; decide)) (getD_mem (by rw [may_list mb (k1 ▸ h4)]; decide)) (getD_mem (by rw [may_list mc (k2 ▸ k1 ▸ h4)]; decide)) hab hbc
    rw [if_neg h4] at hab ⊢
    rw [if_neg (fun e => h4 (k1.trans e))] at hbc
    by_cases h5 : a.kind = 5
    · rw [if_pos h5, cover_iff] at hab ⊢
      rw [if_pos (k1 ▸ h5), cover_iff] at hbc
      have ra := may_rows ma (.inl h5)
      have rb := may_rows mb (.inl (k1 ▸ h5))
      intro k h h'
      obtain ⟨m1, s1⟩ := hbc k h h'
      have hj := firstOf_lt m1
      have hb := rb.len
      obtain ⟨m2, s2⟩ := hab (firstOf b.names c.names[k]) hj (by omega)
      rw [first_get m1] at m2 s2
      rw [ofT, if_pos m1, getD_at (by omega)] at s1
      exact ⟨m2, IH _ _ _ (ofT_mem m2 ra.len) (List.getElem_mem _) (List.getElem_mem _) s2 s1⟩
    rw [if_neg h5] at hab ⊢
    rw [if_neg (fun e => h5 (k1.trans e))] at hbc
    by_cases h6 : a.kind = 6
    · rw [if_pos h6, cover_iff] at hab ⊢
      rw [if_pos (k1 ▸ h6), cover_iff] at hbc
      have rc := may_rows mc (.inr (k2 ▸ k1 ▸ h6))
      have rb := may_rows mb (.inr (k1 ▸ h6))
      intro k h h'
      obtain ⟨m1, s1⟩ := hab k h h'
      have hj := firstOf_lt m1
      have hb := rb.len
      obtain ⟨m2, s2⟩ := hbc (firstOf b.names a.names[k]) hj (by omega)
      rw [first_get m1] at m2 s2
      rw [ofT, if_pos m1, getD_at (by omega)] at s1
      exact ⟨m2, IH _ _ _ (List.getElem_mem _) (List.getElem_mem _) (ofT_mem m2 rc.len) s1 s2⟩
    rw [if_neg h6] at hab ⊢
    rw [if_neg (fun e => h6 (k1.trans e))] at hbc
    by_cases h7 : a.kind = 7
    · rw [if_pos h7, func_iff] at hab ⊢
      rw [if_pos (k1 ▸ h7), func_iff] at hbc
      obtain ⟨e1, l1, a1⟩ := hab
      obtain ⟨e2, l2, a2⟩ := hbc
      have f1 := may_func ma h7
      rw [← e1] at l2 a2
      exact ⟨e1.trans e2, IH _ _ _ (getD_mem (by omega)) (getD_mem (by omega)) (getD_mem (by omega)) l1 l2, fun i hi => IR _ _ _ (getD_mem (by omega)) (getD_mem (by omega)) (getD_mem (by omega)) (a2 i hi) (a1 i hi)⟩
    rw [if_neg h7] at hab ⊢
    rw [if_neg (fun e => h7 (k1.trans e))] at hbc
    rw [alike_iff] at hab hbc ⊢
    exact hab.trans hbc
theorem rise_tail {x : ByteArray} {l : List ByteArray} (h : riseB (x :: l) = true) : riseB l = true := by
  cases l with
  | nil => rfl
  | cons y l =>
    rw [riseB, Bool.and_eq_true] at h
    exact h.2
theorem rise_head {x : ByteArray} {l : List ByteArray} (h : riseB (x :: l) = true) {y : ByteArray} (hy : y ∈ l) : ltB x y = true := by
  obtain ⟨i, hi, rfl⟩ := List.getElem_of_mem hy
  exact rise_lt h 0 (i + 1) (by omega) (by simpa using hi)
theorem rise_eq : ∀ {l m : List ByteArray}, riseB l = true → riseB m = true → (∀ s, s ∈ l ↔ s ∈ m) → l = m
  | [], [], _, _, _ => rfl
  | [], y :: m, _, _, h => absurd ((h y).2 (by simp)) (by simp)
  | x :: l, [], _, _, h => absurd ((h x).1 (by simp)) (by simp)
  | x :: l, y :: m, hl, hm, h => by
    have e : x = y := by
      rcases List.mem_cons.1 ((h x).1 (by simp)) with e | hx
      · exact e
      · rcases List.mem_cons.1 ((h y).2 (by simp)) with e | hy
        · exact e.symm
        · have h1 := rise_head hm hx
          have h2 := rise_head hl hy
          have := ltB_trans h1 h2
          rw [ltB_irrefl] at this
          exact absurd this (by decide)
    subst e
    rw [rise_eq (rise_tail hl) (rise_tail hm) fun s => ?_]
    constructor
    · intro hs
      rcases List.mem_cons.1 ((h s).1 (List.mem_cons_of_mem _ hs)) with e | hs'
      · subst e
        have := rise_head hl hs
        rw [ltB_irrefl] at this
        exact absurd this (by decide)
      · exact hs'
    · intro hs
      rcases List.mem_cons.1 ((h s).2 (List.mem_cons_of_mem _ hs)) with e | hs'
      · subst e
        have := rise_head hm hs
        rw [ltB_irrefl] at this
        exact absurd this (by decide)
      · exact hs'
theorem empty_of {x : ByteArray} (h : x.toList.isEmpty = true) : x = ⟨#[]⟩ := by
  rw [ByteArray.toList_eq] at h
  cases x with
  | mk d => simp at h; rw [h]
/-- types of the kinds that bear no names of their own are told by their parts -/
theorem may_eq {a b : Ty} (ma : mayT a = true) (mb : mayT b = true) (hk : a.kind = b.kind) (h8 : ¬ a.kind = 8) (h9 : ¬ a.kind = 9) (hn : a.names = b.names) (hs : a.subs = b.subs) : a = b := by
  have sa := may_shape ma
  have sb := may_shape mb
  rw [shapeB, Bool.and_eq_true, Bool.and_eq_true, bareT, if_neg h8, if_neg h9] at sa
  rw [shapeB, Bool.and_eq_true, Bool.and_eq_true, bareT, if_neg (fun e => h8 (hk.trans e)), if_neg (fun e => h9 (hk.trans e))] at sb
  have ea := sa.1.1
  have eb := sb.1.1
  simp only [emptyB, Bool.and_eq_true, beq_iff_eq] at ea eb
  rw [a.eta, b.eta, hk, hn, hs, empty_of ea.1.1.1, empty_of eb.1.1.1, ea.1.1.2, eb.1.1.2, empty_of ea.1.2, empty_of eb.1.2, empty_of ea.2, empty_of eb.2]
theorem may_nonames {a : Ty} (ma : mayT a = true) (h : a.kind = 4 ∨ a.kind = 7) : a.names = [] := by
  have := may_kind ma
  rcases h with h | h
  · simp [kindB, h] at this
    exact this.2
  · simp [kindB, h] at this
    exact this.2
theorem may_same {a : Ty} (ma : mayT a = true) (h : a.kind = 5 ∨ a.kind = 6) : a.subs.length = a.names.length := by
  have := may_kind ma
  rcases h with h | h
  · simp [kindB, h] at this
    omega
  · simp [kindB, h] at this
    omega
theorem sub_anti : ∀ (n : Nat) (a b : Ty), mayT a = true → mayT b = true → deepT a ≤ n → deepT b ≤ n → subF n a b = true → subF n b a = true → a = b
  | 0, a, _, _, _, hd, _, _, _ => by have := deep_bound a; omega
  | n + 1, a, b, ma, mb, da, db, hab, hba => by
    have IH : ∀ x y, x ∈ a.subs → y ∈ b.subs → subF n x y = true → subF n y x = true → x = y := fun x y hx hy =>
      sub_anti n x y (may_child ma hx) (may_child mb hy) (deep_le da hx) (deep_le db hy)
    have k1 := subF_kind hab
    rw [subF, if_pos k1] at hab
    rw [subF, if_pos k1.symm] at hba
    by_cases h4 : a.kind = 4
    · rw [if_pos h4] at hab
      rw [if_pos (k1 ▸ h4)] at hba
      have la := may_list ma h4
      have lb := may_list mb (k1 ▸ h4)
      have e := IH _ _ (getD_mem (by omega)) (getD_mem (by omega)) hab hba
      refine may_eq ma mb k1 (by omega) (by omega) ?_ ?_
      · rw [may_nonames ma (.inl h4), may_nonames mb (.inl (k1 ▸ h4))]
      · rw [getD_at (by omega), getD_at (by omega)] at e
        refine List.ext_getElem (by omega) fun i h1 h2 => ?_
        obtain rfl : i = 0 := by omega
        exact e
    rw [if_neg h4] at hab
    rw [if_neg (fun e => h4 (k1.trans e))] at hba
    by_cases h5 : a.kind = 5
    · rw [if_pos h5, cover_iff] at hab
      rw [if_pos (k1 ▸ h5), cover_iff] at hba
      have ra := may_rows ma (.inl h5)
      have rb := may_rows mb (.inl (k1 ▸ h5))
      have la := may_same ma (.inl h5)
      have lb := may_same mb (.inl (k1 ▸ h5))
      have hn : a.names = b.names := rise_eq ra.rise rb.rise fun s => by
        constructor
        · intro hs
          obtain ⟨i, hi, rfl⟩ := List.getElem_of_mem hs
          exact (memB_iff _ _).1 (hba i hi (by omega)).1
        · intro hs
          obtain ⟨i, hi, rfl⟩ := List.getElem_of_mem hs
          exact (memB_iff _ _).1 (hab i hi (by omega)).1
      have hll : a.names.length = b.names.length := by rw [hn]
      refine may_eq ma mb k1 (by omega) (by omega) hn (List.ext_getElem (by omega) fun i h1 h2 => ?_)
      have s1 := (hab i (by omega) h2).2
      have s2 := (hba i (by omega) h1).2
      have e1 : b.names[i]'(by omega) = a.names[i]'(by omega) := by simp only [hn]
      rw [e1, ofT_idx ra (by omega)] at s1
      rw [← e1, ofT_idx rb (by omega)] at s2
      exact IH _ _ (List.getElem_mem _) (List.getElem_mem _) s1 s2
    rw [if_neg h5] at hab
    rw [if_neg (fun e => h5 (k1.trans e))] at hba
    by_cases h6 : a.kind = 6
    · rw [if_pos h6, cover_iff] at hab
      rw [if_pos (k1 ▸ h6), cover_iff] at hba
      have ra := may_rows ma (.inr h6)
      have rb := may_rows mb (.inr (k1 ▸ h6))
      have la := may_same ma (.inr h6)
      have lb := may_same mb (.inr (k1 ▸ h6))
      have hn : a.names = b.names := rise_eq ra.rise rb.rise fun s => by
        constructor
        · intro hs
          obtain ⟨i, hi, rfl⟩ := List.getElem_of_mem hs
          exact (memB_iff _ _).1 (hab i hi (by omega)).1
        · intro hs
          obtain ⟨i, hi, rfl⟩ := List.getElem_of_mem hs
          exact (memB_iff _ _).1 (hba i hi (by omega)).1
      have hll : a.names.length = b.names.length := by rw [hn]
      refine may_eq ma mb k1 (by omega) (by omega) hn (List.ext_getElem (by omega) fun i h1 h2 => ?_)
      have s1 := (hab i (by omega) h1).2
      have s2 := (hba i (by omega) h2).2
      have e1 : b.names[i]'(by omega) = a.names[i]'(by omega) := by simp only [hn]
      rw [← e1, ofT_idx rb (by omega)] at s1
      rw [e1, ofT_idx ra (by omega)] at s2
      exact IH _ _ (List.getElem_mem _) (List.getElem_mem _) s1 s2
    rw [if_neg h6] at hab
    rw [if_neg (fun e => h6 (k1.trans e))] at hba
    by_cases h7 : a.kind = 7
    · rw [if_pos h7, func_iff] at hab
      rw [if_pos (k1 ▸ h7), func_iff] at hba
      obtain ⟨e1, l1, a1⟩ := hab
      obtain ⟨e2, l2, a2⟩ := hba
      rw [e2] at l2 a2
      have f1 := may_func ma h7
      refine may_eq ma mb k1 (by omega) (by omega) ?_ (List.ext_getElem e1 fun i h1 h2 => ?_)
      · rw [may_nonames ma (.inr h7), may_nonames mb (.inr (k1 ▸ h7))]
      · by_cases hi : i < a.subs.length - 1
        · have := IH _ _ (getD_mem h1) (getD_mem h2) (a2 i hi) (a1 i hi)
          rwa [getD_at h1, getD_at h2] at this
        · obtain rfl : i = a.subs.length - 1 := by omega
          have := IH _ _ (getD_mem h1) (getD_mem h2) l1 l2
          rwa [getD_at h1, getD_at h2] at this
    rw [if_neg h7] at hab
    exact (alike_iff a b).1 hab
end Go.Proofs.YtjeldfipipkfiaaGreatDoor
