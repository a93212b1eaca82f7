/- A region that draws its order: a load may be taken first where its cell holds till an operation that waits for the load, by way of others, has come up. -/
import Derived.Test.YtjeldfipipkfiaaGreatDoorRegL
namespace Go.Proofs.YtjeldfipipkfiaaGreatDoor
section
variable {P : Program} {ops : Array Oper} {Q : Exit → Act → World → Prop} {md : Region.Mode} {cs : List (Nat × (World → Prop))}

/-- each waits for the one before it, the first one for i; none has come up -/
def chainB (md : Region.Mode) (ops : Array Oper) (l : Array Bool) : Nat → List Nat → Bool
  | _, [] => true
  | i, m :: ms => (match ops[m]? with | some om => om.after.any fun e => Region.binds md e && e.on == i | none => false) && !l.getD m true && chainB md ops l m ms

theorem unlisted_wait {l : Array Bool} {i j : Nat} {oj : Oper} (hi : l.getD i true = false) (hj : j ∈ Region.ready md ops l) (ho : ops[j]? = some oj) (hw : (oj.after.any fun e => Region.binds md e && e.on == i) = true) : False := by
  obtain ⟨-, oj', hoj, hall⟩ := mem_ready.1 hj
  rw [ho] at hoj
  obtain rfl := Option.some.inj hoj
  obtain ⟨e, he, hb⟩ := Array.any_eq_true'.1 hw
  have hb : Region.binds md e = true ∧ e.on = i := by simpa using hb
  have h1 := hall e he hb.1
  rw [hb.2] at h1
  rcases Nat.lt_or_ge i l.size with h' | h'
  · simp [h'] at hi h1; rw [hi] at h1; cases h1
  · simp [Array.getElem?_eq_none h'] at h1

theorem chain_step : ∀ (ch : List Nat) {l : Array Bool} {i j : Nat}, chainB md ops l i ch = true → l.getD i true = false → j ∈ Region.ready md ops l → chainB md ops (l.setIfInBounds j true) i ch = true
  | [], _, _, _, _, _, _ => rfl
  | m :: ms, l, i, j, h, hi, hj => by
    rw [chainB, Bool.and_eq_true, Bool.and_eq_true] at h ⊢
    obtain ⟨⟨h1, h2⟩, h3⟩ := h
    have hm : l.getD m true = false := by simpa using h2
    have hne : j ≠ m := by
      rintro rfl
      cases ho : ops[j]? with
      | none => rw [ho] at h1; cases h1
      | some oj => rw [ho] at h1; exact unlisted_wait hi hj ho h1
    exact ⟨⟨h1, by rw [getD_set_ne true hne]; exact h2⟩, chain_step ms h3 hm hj⟩

theorem chain_last : ∀ (ch : List Nat) {l : Array Bool} {i d : Nat}, chainB md ops l i ch = true → ch.getLast? = some d → l.getD d true = false
  | [], _, _, _, _, h => by cases h
  | [m], _, _, _, h, hd => by
    rw [chainB, Bool.and_eq_true, Bool.and_eq_true] at h
    cases hd
    simpa using h.1.2
  | m :: m' :: ms, l, i, d, h, hd => by
    rw [chainB, Bool.and_eq_true] at h
    exact chain_last (m' :: ms) h.2 (by simpa using hd)

theorem AnyU.firstc {i d : Nat} {oi : Oper} {v : Value} {Si : World → Prop} {ch : List Nat} (hi : ops[i]? = some oi) (hsel : ∀ (j : Nat) (o : Oper) xs b, ops[j]? = some o → o.op ≠ .select xs b)
    (hQ : ∀ c a w, Q (.panic c) (a.put oi.dst v) w → Q (.panic c) a w) (hne : ∀ x ∈ cs, x.1 ≠ i) (hlast : ch.getLast? = some d) (hm : (d, Si) ∈ cs) :
    ∀ (n : Nat) (l : Array Bool) (a : Act) (w : World),
      (∀ j oj, ops[j]? = some oj → j ≠ i → l.getD j true = false → (∀ e ∈ oj.after, Region.binds md e = true → e.on ≠ i) → oi.apart ops oj = true) →
      i ∈ Region.ready md ops l → chainB md ops l i ch = true → YieldsIf P ops Si oi v a → Until cs l w →
      AnyU P md ops Q cs n (l.setIfInBounds i true) (a.put oi.dst v) w → AnyU P md ops Q cs (n + 1) l a w := by
  intro n
  induction n with
  | zero =>
    intro l a w _ hr hg hy hS H
    refine ⟨fun h => (by rw [h] at hr; cases hr), fun j hj => ?_⟩
    by_cases hji : j = i
    · subst hji; exact hy.wpOp hi (hS _ hm (chain_last ch hg hlast)) ⟨(Until.put hne).2 hS, H⟩
    · have := ready_mono hj hji
      rw [H.1] at this
      cases this
  | succ n ih =>
    intro l a w hfree hr hg hy hS H
    refine ⟨fun h => (by rw [h] at hr; cases hr), fun j hj => ?_⟩
    by_cases hji : j = i
    · subst hji; exact hy.wpOp hi (hS _ hm (chain_last ch hg hlast)) ⟨(Until.put hne).2 hS, H⟩
    obtain ⟨hjun, oj, hoj, hall⟩ := mem_ready.1 hj
    have hiun := (mem_ready.1 hr).1
    have hnot : ∀ e ∈ oj.after, Region.binds md e = true → e.on ≠ i := fun e he hb heq =>
      unlisted_wait hiun hj hoj (Array.any_eq_true'.2 ⟨e, he, by simp [hb, heq]⟩)
    have h2 := wpOp_putIf hoj (hfree j oj hoj hji hjun hnot) (fun xs b => hsel i oi xs b hi) (fun xs b => hsel j oj xs b hoj) hQ hy (H.2 j (ready_mono hj hji))
    refine wpOp_mono (fun a' w' h3 => ?_) h2
    obtain ⟨hy', hu, hA⟩ := h3
    rw [Array.setIfInBounds_comm _ _ (Ne.symm hji)] at hu hA
    have hu' := (Until.put hne).1 hu
    refine ⟨hu', ih _ a' w' (fun k ok hk hki hun hno => hfree k ok hk hki ?_ hno) (ready_mono hr (Ne.symm hji)) (chain_step ch hg hiun hj) hy' hu' hA⟩
    by_cases hjk : j = k
    · subst hjk; exact hjun
    · rw [getD_set_ne true hjk] at hun; exact hun

/-- Take load i first: its cell holds till d, the last of a chain of operations that wait for i, has come up. -/
theorem AnyU.loadc {i d : Nat} (ch : List Nat) {oi : Oper} {v : Value} {Si : World → Prop} {n : Nat} {l : Array Bool} {a : Act} {w : World} (hi : ops[i]? = some oi) (hs : Region.noSelect ops = true)
    (hf : Region.free md ops l i = true) (hr : (Region.ready md ops l).contains i = true) (hQ : ∀ c a w, Q (.panic c) (a.put oi.dst v) w → Q (.panic c) a w)
    (hne : (cs.all fun x => x.1 != i) = true) (hS : Until cs l w) (hc : chainB md ops l i ch = true) (hlast : ch.getLast? = some d) (hm : (d, Si) ∈ cs)
    (hw : Region.wanted oi (yielded ops a.tmps) = true) (hy : ∀ w, Si w → (execOp a.eval oi).run P w = .ok (.value v) w)
    (h : Until cs (l.setIfInBounds i true) w → AnyU P md ops Q cs n (l.setIfInBounds i true) (a.put oi.dst v) w) : AnyU P md ops Q cs (n + 1) l a w :=
  AnyU.firstc (Si := Si) hi (Region.noSelect_spec hs) hQ (by simpa using hne) hlast hm n l a w (Region.free_spec hi hf) (by simpa using hr) hc (.inl ⟨hw, hy⟩) hS (h ((Until.put (by simpa using hne)).2 hS))
end
end Go.Proofs.YtjeldfipipkfiaaGreatDoor
