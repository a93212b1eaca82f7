/- WitnessExact: the plain law, and the client that breaks in memory. -/
import Derived.Test.YtjeldfipipkfiaaGreatDoorUseP
import Derived.Test.YtjeldfipipkfiaaGreatDoorGUsD
import Derived.Test.YtjeldfipipkfiaaGreatDoorBrkC
import Derived.Test.YtjeldfipipkfiaaGreatDoorGOf
namespace Go.Proofs.YtjeldfipipkfiaaGreatDoor
open Go.RowKit
set_option linter.unusedSimpArgs false
set_option linter.unusedVariables false
theorem fair_may2 {a b : List If} (h : fairB a b = true) : mayP a = true ∧ mayP b = true := by
  rw [fairB, Bool.and_eq_true, Bool.and_eq_true] at h
  exact ⟨h.1, h.2.1⟩
theorem subB_anti {a b : Ty} (ha : PlainB a = true) (hb : PlainB b = true) (h1 : SubB a b = true) (h2 : SubB b a = true) : a = b := by
  rw [subB_plain ha hb] at h1
  rw [subB_plain hb ha] at h2
  exact sub_anti 32 a b (plain_may ha) (plain_may hb) (may_deep (plain_may ha)) (may_deep (plain_may hb)) h1 h2
theorem gain_iff {a b : List If} (h : fairB a b = true) (h1 : ofF (chgF a b) ≠ 3) : chgF a b ≠ [] ↔ ofF (chgF b a) = 3 := by
  obtain ⟨ma, mb⟩ := fair_may2 h
  constructor
  · intro hne
    obtain ⟨c, hc⟩ := List.exists_mem_of_ne_nil _ hne
    obtain ⟨hs, hk, hp⟩ := chg_mem.1 hc
    have hnb : ¬ (c.kind = 1 ∨ c.kind = 2) := fun hb => h1 (of_big.2 ⟨c, hc, hb⟩)
    cases hx : look a c.mod c.ofType c.name with
    | none =>
      cases hy : look b c.mod c.ofType c.name with
      | none => rw [hx, hy] at hs; simp at hs
      | some y => exact big_at (m := c.mod) (n := c.name) (o := c.ofType) (k := 1) (.inl (by rw [hy]; rfl)) (by rw [hx, hy]; rfl) (.inl rfl)
    | some x =>
      cases hy : look b c.mod c.ofType c.name with
      | none => rw [hx, hy] at hk; exact absurd (.inl hk) hnb
      | some y =>
        rw [hx, hy] at hk
        have hk' : c.kind = turnF x.ty y.ty c.ofType := hk
        have px := look_plain ma hx
        have py := look_plain mb hy
        rcases turn_cases x.ty y.ty c.ofType with e | e | e
        · omega
        · exact absurd (.inr (hk'.trans e)) hnb
        · have hxy : x.ty ≠ y.ty := fun hq => by rw [(turn_zero px py).2 hq] at e; cases e
          have hn2 : ¬ (c.ofType = true ∨ SubB y.ty x.ty = false) := fun hq => by rw [(turn_two px py).2 ⟨hxy, hq⟩] at e; cases e
          have hyx : SubB y.ty x.ty = true := by
            cases hs2 : SubB y.ty x.ty
            · exact absurd (.inr hs2) hn2
            · rfl
          have hb2 : SubB x.ty y.ty = false := by
            cases hs2 : SubB x.ty y.ty
            · rfl
            · exact absurd (subB_anti px py hs2 hyx) hxy
          exact big_at (m := c.mod) (n := c.name) (o := c.ofType) (k := 2) (.inl (by rw [hy]; rfl)) (by rw [hx, hy]; exact (turn_two py px).2 ⟨fun hq => hxy hq.symm, .inr hb2⟩) (.inr rfl)
  · intro h3
    obtain ⟨c, hc, hb⟩ := of_big.1 h3
    obtain ⟨hs, hk, hp⟩ := chg_mem.1 hc
    cases hx : look b c.mod c.ofType c.name with
    | none => rw [hx] at hk; simp only [kindO] at hk; omega
    | some x =>
      cases hy : look a c.mod c.ofType c.name with
      | none => exact some_at (m := c.mod) (n := c.name) (o := c.ofType) (k := 4) (.inr (by rw [hx]; rfl)) (by rw [hx, hy]; rfl) (by omega)
      | some y =>
        rw [hx, hy] at hk
        have hk' : c.kind = turnF x.ty y.ty c.ofType := hk
        have px := look_plain mb hx
        have py := look_plain ma hy
        have hxy : x.ty ≠ y.ty := fun hq => by rw [(turn_zero px py).2 hq] at hk'; omega
        have hk0 : turnF y.ty x.ty c.ofType ≠ 0 := fun hq => hxy ((turn_zero py px).1 hq).symm
        exact some_at (m := c.mod) (n := c.name) (o := c.ofType) (k := turnF y.ty x.ty c.ofType) (.inr (by rw [hx]; rfl)) (by rw [hx, hy]; rfl) (by rcases turn_cases y.ty x.ty c.ofType with e | e | e <;> omega)
theorem big_iff {l : List Chg} : (bigC l).isSome = true ↔ ofF l = 3 := by
  rw [bigC, List.find?_isSome, ofF]
  constructor
  · rintro ⟨c, hc, hb⟩; rw [if_pos (List.any_eq_true.2 ⟨c, hc, hb⟩)]
  · intro e
    by_cases hq : l.any bigB = true
    · obtain ⟨c, hc, hb⟩ := List.any_eq_true.1 hq; exact ⟨c, hc, hb⟩
    · rw [if_neg hq] at e; split at e <;> cases e
theorem bump_wit {a b : List If} (h : fairB a b = true) : ofF (chgF a b) = if (bigC (chgF a b)).isSome = true then 3 else if (bigC (chgF b a)).isSome = true then 2 else 1 := by
  by_cases h1 : ofF (chgF a b) = 3
  · rw [if_pos (big_iff.2 h1), h1]
  · rw [if_neg (fun hq => h1 (big_iff.1 hq))]
    by_cases h2 : chgF a b = []
    · rw [if_neg (fun hq => (gain_iff h h1).2 (big_iff.1 hq) h2)]
      exact of_one.2 h2
    · rw [if_pos (big_iff.2 ((gain_iff h h1).1 h2))]
      rcases of_range (chgF a b) with e | e | e
      · exact absurd (of_one.1 e) h2
      · exact e
      · exact absurd e h1
theorem small_sizeU {s : ByteArray} (h : smallB s = true) : s.size ≤ 20 := by
  unfold smallB letters at h
  simp only [Bool.and_eq_true, decide_eq_true_eq] at h
  have := h.1.1.1.2
  have e : s.data.toList.length = s.size := by rw [Array.length_toList]; rfl
  omega
theorem great_sizeU {s : ByteArray} (h : greatB s = true) : s.size ≤ 20 := by
  unfold greatB letters at h
  simp only [Bool.and_eq_true, decide_eq_true_eq] at h
  have := h.1.1.1.2
  have e : s.data.toList.length = s.size := by rw [Array.length_toList]; rfl
  omega
theorem usM_of {a b : List If} {w : World} {v : Value} {k : Brk} (ma : mayP a = true) (hk : brkF a b = some k) (hu : UAt w v (some k)) :
    ∃ b1 b2, v = .agg #[.slice (some ⟨b1, 0, none⟩) (useF k).imps.length 1, .slice (some ⟨b2, 0, none⟩) (useF k).lines.length 1] ∧ UsM w w.heap.size (useF k) (some ⟨b1, 0, none⟩) 1 (some ⟨b2, 0, none⟩) 1 := by
  obtain ⟨b1, b2, na, nc, sa, sc, rfl, hb1, hb2, hty⟩ := hu
  refine ⟨b1, b2, rfl, ?_⟩
  rw [brkF, Option.map_eq_some_iff] at hk
  obtain ⟨c, hc, rfl⟩ := hk
  obtain ⟨hcase, x, n, hx, hn, hl⟩ := big_had hc
  simp only [hx, hl, Option.getD_some] at hb1 hb2 hty ⊢
  have hxa := List.mem_of_find?_eq_some hx
  have himay := may_iface ma hxa
  rw [imayB] at himay
  simp only [Bool.and_eq_true, decide_eq_true_eq] at himay
  obtain ⟨i1, i2, i3, i4, i5, i6⟩ := himay
  have hnn : n.name = c.name := by have := List.find?_some hn; rw [ba_eq] at this; simpa using this
  have hnm := List.mem_of_find?_eq_some hn
  have hsz : c.name.size ≤ 20 := by
    rw [← hnn]
    cases ho : c.ofType
    · rw [ho] at hnm
      exact small_sizeU (named_name i6 (by simpa [selF] using hnm))
    · rw [ho] at hnm
      exact great_sizeU (named_name i5 (by simpa [selF] using hnm))
  have s1 := small_sizeU i1
  have s2 := small_sizeU i2
  have sm : nmM.size ≤ maxLen := by decide +kernel
  have l1 := hb1.lt
  have l2 := hb2.lt
  refine ⟨⟨fun _ => impCells ⟨x.pkg, x.major, x.mod, nmM⟩, .inr ⟨b1, 0, rfl, l1, fun i hi j hj => ?_⟩, fun i hi => ?_⟩, ⟨fun _ => lnCells ⟨if c.ofType = true then 2 else 1, nmM, c.name, n.ty⟩ na nc sa sc, .inr ⟨b2, 0, rfl, l2, fun i hi j hj => ?_⟩, fun i hi => ?_⟩, by simp [useF], by simp [useF], by simp [useF], by simp [useF]⟩
  · have : i = 0 := by simp [useF] at hi; omega
    subst this
    rw [show 0 + 0 * 4 + j = j by omega, hb1.cell]
    rfl
  · have : i = 0 := by simp [useF] at hi; omega
    subst this
    refine ⟨⟨by show x.pkg.size ≤ maxLen; unfold maxLen; omega, by show x.mod.size ≤ maxLen; unfold maxLen; omega, sm, ⟨by show (-9223372036854775808 : Int) ≤ x.major; omega, by show x.major ≤ (9223372036854775807 : Int); omega⟩⟩, rfl⟩
  · have : i = 0 := by simp [useF] at hi; omega
    subst this
    rw [show 0 + 0 * 10 + j = j by omega, hb2.cell]
    rfl
  · have : i = 0 := by simp [useF] at hi; omega
    subst this
    refine ⟨⟨?_, sm, by show c.name.size ≤ maxLen; unfold maxLen; omega⟩, na, nc, sa, sc, rfl, hty⟩
    show (-9223372036854775808 : Int) ≤ (if c.ofType = true then 2 else 1) ∧ (if c.ofType = true then 2 else 1) ≤ (9223372036854775807 : Int)
    split <;> decide
end Go.Proofs.YtjeldfipipkfiaaGreatDoor
