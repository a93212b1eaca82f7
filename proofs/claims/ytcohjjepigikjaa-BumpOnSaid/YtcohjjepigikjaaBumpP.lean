/- The plain law of BumpOn: the bump of the first and last is no greater than the greater one of both; of the same nothing changed. Plain Lean; no condition. -/
import Derived.Test.YtcohjjepigikjaaOfC
namespace Go.Proofs.Ytcohjjepigikjaa
open Go.RowKit
set_option linter.unusedSimpArgs false
set_option linter.unusedVariables false
/-- what interfaces have of a name -/
def look (l : List If) (m : ByteArray) (o : Bool) (n : ByteArray) : Option Nm :=
  firstNamed (if o = true then ((firstIface l m).getD zIf).types else ((firstIface l m).getD zIf).vals) n
theorem firstNamed_mem {l : List Nm} {n : ByteArray} : n ∈ l.map Nm.name ↔ (firstNamed l n).isSome = true := by
  rw [firstNamed, List.find?_isSome, List.mem_map]
  constructor
  · rintro ⟨x, hx, rfl⟩
    exact ⟨x, hx, ba_yes rfl⟩
  · rintro ⟨x, hx, h⟩
    rw [ba_eq] at h
    exact ⟨x, hx, by simpa using h⟩
theorem firstIface_mem {l : List If} {n : ByteArray} : n ∈ l.map If.mod ↔ (firstIface l n).isSome = true := by
  rw [firstIface, List.find?_isSome, List.mem_map]
  constructor
  · rintro ⟨x, hx, rfl⟩
    exact ⟨x, hx, ba_yes rfl⟩
  · rintro ⟨x, hx, h⟩
    rw [ba_eq] at h
    exact ⟨x, hx, by simpa using h⟩
theorem look_mod {l : List If} {m n : ByteArray} {o : Bool} (h : (look l m o n).isSome = true) : m ∈ l.map If.mod := by
  rw [firstIface_mem]
  cases hf : firstIface l m with
  | some x => rfl
  | none =>
    rw [look, hf] at h
    cases o <;> simp [zIf, firstNamed] at h
theorem rowsF_mem {m : ByteArray} {a b : List Nm} {o : Bool} {c : Chg} : c ∈ rowsF m a b o ↔ c.mod = m ∧ c.ofType = o ∧ ((firstNamed a c.name).isSome = true ∨ (firstNamed b c.name).isSome = true) ∧ c.kind = kindO (firstNamed a c.name) (firstNamed b c.name) o ∧ 0 < c.kind := by
  rw [rowsF, List.mem_flatMap]
  constructor
  · rintro ⟨n, hn, hc⟩
    rw [unionN_mem, firstNamed_mem, firstNamed_mem] at hn
    rw [oneF] at hc
    split at hc
    · rename_i hk
      simp only [List.mem_singleton] at hc
      subst hc
      exact ⟨rfl, rfl, hn, rfl, hk⟩
    · cases hc
  · rintro ⟨rfl, rfl, hn, hk, h0⟩
    refine ⟨c.name, by rw [unionN_mem, firstNamed_mem, firstNamed_mem]; exact hn, ?_⟩
    rw [oneF, kindF, ← hk, if_pos h0]
    simp
theorem chg_mem {a b : List If} {c : Chg} : c ∈ chgF a b ↔ ((look a c.mod c.ofType c.name).isSome = true ∨ (look b c.mod c.ofType c.name).isSome = true) ∧ c.kind = kindO (look a c.mod c.ofType c.name) (look b c.mod c.ofType c.name) c.ofType ∧ 0 < c.kind := by
  rw [chgF, List.mem_flatMap]
  constructor
  · rintro ⟨m, hm, hc⟩
    rw [modF, List.mem_append, rowsF_mem, rowsF_mem] at hc
    rcases hc with ⟨rfl, ho, hn, hk, h0⟩ | ⟨rfl, ho, hn, hk, h0⟩
    · rw [look, look, ho]; exact ⟨hn, hk, h0⟩
    · rw [look, look, ho]; exact ⟨hn, hk, h0⟩
  · rintro ⟨hn, hk, h0⟩
    refine ⟨c.mod, ?_, ?_⟩
    · rw [unionN_mem]
      rcases hn with hn | hn
      · exact .inl (look_mod hn)
      · exact .inr (look_mod hn)
    · rw [modF, List.mem_append, rowsF_mem, rowsF_mem]
      cases ho : c.ofType
      · rw [look, look, ho] at hn hk; exact .inr ⟨rfl, rfl, hn, hk, h0⟩
      · rw [look, look, ho] at hn hk; exact .inl ⟨rfl, rfl, hn, hk, h0⟩
theorem named_plain {p : ByteArray → Bool} {l : List Nm} (h : namedB p l = true) {x : Nm} (hx : x ∈ l) : PlainB x.ty = true := by
  obtain ⟨i, hi, rfl⟩ := List.getElem_of_mem hx
  rw [namedB, List.all_eq_true] at h
  have := h i (List.mem_range.2 hi)
  rw [nmOk, dif_pos hi] at this
  simp only [Bool.and_eq_true] at this
  exact this.2.2
theorem may_iface {l : List If} (h : mayP l = true) {x : If} (hx : x ∈ l) : imayB x = true := by
  obtain ⟨i, hi, rfl⟩ := List.getElem_of_mem hx
  rw [mayP, Bool.and_eq_true, List.all_eq_true] at h
  have := h.1 i (List.mem_range.2 hi)
  rw [ipOk, dif_pos hi] at this
  simp only [Bool.and_eq_true] at this
  exact this.1
theorem look_plain {l : List If} (h : mayP l = true) {m n : ByteArray} {o : Bool} {x : Nm} (hx : look l m o n = some x) : PlainB x.ty = true := by
  rw [look] at hx
  have hm := List.mem_of_find?_eq_some hx
  cases hf : firstIface l m with
  | none => rw [hf] at hm; cases o <;> simp [zIf] at hm
  | some y =>
    have hy := may_iface h (List.mem_of_find?_eq_some hf)
    rw [imayB] at hy
    simp only [Bool.and_eq_true] at hy
    rw [hf] at hm
    cases o
    · exact named_plain hy.2.2.2.2.2 hm
    · exact named_plain hy.2.2.2.2.1 hm
theorem same_plain {a b : Ty} (ha : PlainB a = true) (hb : PlainB b = true) : sameB a b = true ↔ a = b := by
  rw [sameB, plain_may ha, plain_may hb, Bool.true_and, Bool.true_and, alike_iff]
theorem subB_plain {a b : Ty} (ha : PlainB a = true) (hb : PlainB b = true) : SubB a b = subF 32 a b := by rw [SubB, ha, hb]; simp
theorem subB_refl {a : Ty} (ha : PlainB a = true) : SubB a a = true := by
  rw [subB_plain ha ha]
  exact sub_refl 32 a (plain_may ha) (may_deep (plain_may ha))
theorem subB_trans {a b c : Ty} (ha : PlainB a = true) (hb : PlainB b = true) (hc : PlainB c = true) (h1 : SubB a b = true) (h2 : SubB b c = true) : SubB a c = true := by
  rw [subB_plain ha hb] at h1
  rw [subB_plain hb hc] at h2
  rw [subB_plain ha hc]
  exact sub_trans 32 a b c (plain_may ha) (plain_may hb) (plain_may hc) (may_deep (plain_may ha)) (may_deep (plain_may hb)) (may_deep (plain_may hc)) h1 h2
theorem turn_zero {a b : Ty} {o : Bool} (ha : PlainB a = true) (hb : PlainB b = true) : turnF a b o = 0 ↔ a = b := by
  rw [← same_plain ha hb, turnF]
  by_cases h : sameB a b = true
  · simp [h]
  · rw [if_neg h]
    constructor
    · intro e; split at e <;> cases e
    · intro e; exact absurd e h
theorem turn_two {a b : Ty} {o : Bool} (ha : PlainB a = true) (hb : PlainB b = true) : turnF a b o = 2 ↔ a ≠ b ∧ (o = true ∨ SubB b a = false) := by
  rw [ne_eq, ← same_plain ha hb, turnF]
  by_cases h : sameB a b = true
  · rw [if_pos h]
    constructor
    · intro e; cases e
    · intro e; exact absurd h e.1
  · rw [if_neg h]
    by_cases h2 : o = true ∨ SubB b a = false
    · rw [if_pos h2]; exact ⟨fun _ => ⟨h, h2⟩, fun _ => rfl⟩
    · rw [if_neg h2]
      constructor
      · intro e; cases e
      · intro e; exact absurd e.2 h2
theorem turn_cases (a b : Ty) (o : Bool) : turnF a b o = 0 ∨ turnF a b o = 2 ∨ turnF a b o = 3 := by
  unfold turnF
  split
  · exact .inl rfl
  · split
    · exact .inr (.inl rfl)
    · exact .inr (.inr rfl)
/-- is there anything, and anything great, that changed of a name? -/
theorem of_big {l : List Chg} : ofF l = 3 ↔ ∃ c ∈ l, c.kind = 1 ∨ c.kind = 2 := by
  rw [ofF]
  by_cases h : l.any bigB = true
  · rw [if_pos h]
    obtain ⟨c, hc, hb⟩ := List.any_eq_true.1 h
    simp [bigB] at hb
    exact ⟨fun _ => ⟨c, hc, hb⟩, fun _ => rfl⟩
  · rw [if_neg h]
    constructor
    · intro e; split at e <;> cases e
    · rintro ⟨c, hc, hb⟩
      exact absurd (List.any_eq_true.2 ⟨c, hc, by simpa [bigB] using hb⟩) h
theorem of_one {l : List Chg} : ofF l = 1 ↔ l = [] := by
  rw [ofF]
  cases l with
  | nil => simp
  | cons x l =>
    constructor
    · intro e
      split at e
      · cases e
      · simp at e
    · intro e; cases e
theorem of_range (l : List Chg) : ofF l = 1 ∨ ofF l = 2 ∨ ofF l = 3 := by
  rw [ofF]
  split
  · exact .inr (.inr rfl)
  · split
    · exact .inl rfl
    · exact .inr (.inl rfl)
theorem big_at {a b : List If} {m n : ByteArray} {o : Bool} {k : Int} (hn : (look a m o n).isSome = true ∨ (look b m o n).isSome = true) (hk : kindO (look a m o n) (look b m o n) o = k) (h : k = 1 ∨ k = 2) : ofF (chgF a b) = 3 :=
  of_big.2 ⟨⟨k, m, n, o⟩, chg_mem.2 ⟨hn, hk.symm, by show 0 < k; omega⟩, h⟩
theorem some_at {a b : List If} {m n : ByteArray} {o : Bool} {k : Int} (hn : (look a m o n).isSome = true ∨ (look b m o n).isSome = true) (hk : kindO (look a m o n) (look b m o n) o = k) (h : 0 < k) : chgF a b ≠ [] := by
  intro e
  have : (⟨k, m, n, o⟩ : Chg) ∈ chgF a b := chg_mem.2 ⟨hn, hk.symm, h⟩
  rw [e] at this
  cases this
theorem bump_big {a b c : List If} (ma : mayP a = true) (mb : mayP b = true) (mc : mayP c = true) (h : ofF (chgF a c) = 3) : ofF (chgF a b) = 3 ∨ ofF (chgF b c) = 3 := by
  obtain ⟨⟨k, m, n, o⟩, hc, hb⟩ := of_big.1 h
  obtain ⟨hn, hk, h0⟩ := chg_mem.1 hc
  simp only at hb hn hk h0
  have PA := fun x => look_plain ma (m := m) (n := n) (o := o) (x := x)
  have PB := fun x => look_plain mb (m := m) (n := n) (o := o) (x := x)
  have PC := fun x => look_plain mc (m := m) (n := n) (o := o) (x := x)
  have b1 := @big_at a b m n o
  have b2 := @big_at b c m n o
  generalize look a m o n = fa at hn hk PA b1
  generalize look b m o n = fb at PB b1 b2
  generalize look c m o n = fc at hn hk PC b2
  cases fa with
  | none => simp only [kindO] at hk; omega
  | some x =>
    have px := PA x rfl
    cases fb with
    | none => exact .inl (b1 (k := 1) (.inl rfl) rfl (.inl rfl))
    | some y =>
      have py := PB y rfl
      cases fc with
      | none => exact .inr (b2 (k := 1) (.inl rfl) rfl (.inl rfl))
      | some z =>
        have pz := PC z rfl
        have hk2 : turnF x.ty z.ty o = 2 := by
          simp only [kindO] at hk
          rcases turn_cases x.ty z.ty o with e | e | e <;> omega
        obtain ⟨hne, ho⟩ := (turn_two px pz).1 hk2
        rcases turn_cases x.ty y.ty o with e1 | e1 | e1
        · have e := (turn_zero px py).1 e1
          rw [e] at hk2
          exact .inr (b2 (k := 2) (.inl rfl) hk2 (.inr rfl))
        · exact .inl (b1 (k := 2) (.inl rfl) e1 (.inr rfl))
        · rcases turn_cases y.ty z.ty o with e2 | e2 | e2
          · have e := (turn_zero py pz).1 e2
            rw [← e] at hk2
            omega
          · exact .inr (b2 (k := 2) (.inl rfl) e2 (.inr rfl))
          · exfalso
            have n1 : ¬ turnF x.ty y.ty o = 0 := by omega
            have n2 : ¬ turnF y.ty z.ty o = 0 := by omega
            have m1 : ¬ turnF x.ty y.ty o = 2 := by omega
            have m2 : ¬ turnF y.ty z.ty o = 2 := by omega
            rw [turn_zero px py] at n1
            rw [turn_zero py pz] at n2
            rw [turn_two px py] at m1
            rw [turn_two py pz] at m2
            have s1 : SubB y.ty x.ty = true := by
              cases hs : SubB y.ty x.ty
              · exact absurd ⟨n1, .inr hs⟩ m1
              · rfl
            have s2 : SubB z.ty y.ty = true := by
              cases hs : SubB z.ty y.ty
              · exact absurd ⟨n2, .inr hs⟩ m2
              · rfl
            rcases ho with ho | ho
            · exact m1 ⟨n1, .inl ho⟩
            · rw [subB_trans pz py px s2 s1] at ho
              cases ho
theorem bump_none {a b c : List If} (ma : mayP a = true) (mb : mayP b = true) (mc : mayP c = true) (h1 : chgF a b = []) (h2 : chgF b c = []) : chgF a c = [] := by
  apply List.eq_nil_iff_forall_not_mem.2
  rintro ⟨k, m, n, o⟩ hc
  obtain ⟨hn, hk, h0⟩ := chg_mem.1 hc
  simp only at hn hk h0
  have PA := fun x => look_plain ma (m := m) (n := n) (o := o) (x := x)
  have PB := fun x => look_plain mb (m := m) (n := n) (o := o) (x := x)
  have PC := fun x => look_plain mc (m := m) (n := n) (o := o) (x := x)
  have b1 := @some_at a b m n o
  have b2 := @some_at b c m n o
  rw [h1] at b1
  rw [h2] at b2
  generalize look a m o n = fa at hn hk PA b1
  generalize look b m o n = fb at PB b1 b2
  generalize look c m o n = fc at hn hk PC b2
  cases fa with
  | none =>
    cases fc with
    | none => simp at hn
    | some z =>
      cases fb with
      | none => exact b2 (k := 4) (.inr rfl) rfl (by decide) rfl
      | some y => exact b1 (k := 4) (.inr rfl) rfl (by decide) rfl
  | some x =>
    have px := PA x rfl
    cases fb with
    | none => exact b1 (k := 1) (.inl rfl) rfl (by decide) rfl
    | some y =>
      have py := PB y rfl
      cases fc with
      | none => exact b2 (k := 1) (.inl rfl) rfl (by decide) rfl
      | some z =>
        have pz := PC z rfl
        have g1 := @b1 (turnF x.ty y.ty o) (.inl rfl) rfl
        have g2 := @b2 (turnF y.ty z.ty o) (.inl rfl) rfl
        have e1 : turnF x.ty y.ty o = 0 := by
          rcases turn_cases x.ty y.ty o with e | e | e
          · exact e
          · exact absurd rfl (g1 (by omega))
          · exact absurd rfl (g1 (by omega))
        have e2 : turnF y.ty z.ty o = 0 := by
          rcases turn_cases y.ty z.ty o with e | e | e
          · exact e
          · exact absurd rfl (g2 (by omega))
          · exact absurd rfl (g2 (by omega))
        rw [turn_zero px py] at e1
        rw [turn_zero py pz] at e2
        simp only [kindO] at hk
        rw [(turn_zero px pz).2 (e1.trans e2)] at hk
        omega
theorem bump_trans {a b c : List If} (ma : mayP a = true) (mb : mayP b = true) (mc : mayP c = true) : ofF (chgF a c) ≤ ofF (chgF a b) ∨ ofF (chgF a c) ≤ ofF (chgF b c) := by
  rcases of_range (chgF a c) with h | h | h
  · have := of_range (chgF a b); omega
  · by_cases h1 : chgF a b = []
    · by_cases h2 : chgF b c = []
      · rw [bump_none ma mb mc h1 h2] at h
        cases h
      · have := of_range (chgF b c)
        have h3 : ¬ ofF (chgF b c) = 1 := fun e => h2 (of_one.1 e)
        omega
    · have := of_range (chgF a b)
      have h3 : ¬ ofF (chgF a b) = 1 := fun e => h1 (of_one.1 e)
      omega
  · rcases bump_big ma mb mc h with e | e <;> omega
theorem bump_self {a : List If} (ma : mayP a = true) : ofF (chgF a a) = 1 := by
  rw [of_one]
  apply List.eq_nil_iff_forall_not_mem.2
  rintro ⟨k, m, n, o⟩ hc
  obtain ⟨hn, hk, h0⟩ := chg_mem.1 hc
  simp only at hn hk h0
  cases hl : look a m o n with
  | none => rw [hl] at hn; simp at hn
  | some x =>
    rw [hl] at hk
    simp only [kindO] at hk
    rw [(turn_zero (look_plain ma hl) (look_plain ma hl)).2 rfl] at hk
    omega
end Go.Proofs.Ytcohjjepigikjaa
