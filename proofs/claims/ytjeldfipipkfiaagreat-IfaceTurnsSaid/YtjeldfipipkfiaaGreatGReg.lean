/- A region that draws its order: a load may be taken first where its cell holds till an operation that waits for the load has come up. -/
import Derived.OrdersHeld
import Derived.RegionTactic
import Derived.Deep.RegionHeld
import Derived.Test.YtjeldfipipkfiaaGreatGMem
namespace Go.Proofs.YtjeldfipipkfiaaGreat
theorem aput : (type_of% @List.getElem_toArray.{0}) ∧ (type_of% @List.getElem_cons_zero.{0}) ∧ (type_of% @List.getElem_cons_succ.{0}) ∧ (type_of% @List.setIfInBounds_toArray.{0}) ∧ (type_of% @List.set_cons_zero.{0}) ∧ (type_of% @List.set_cons_succ.{0}) :=
  ⟨@List.getElem_toArray, @List.getElem_cons_zero, @List.getElem_cons_succ, @List.setIfInBounds_toArray, @List.set_cons_zero, @List.set_cons_succ⟩
section
variable {P : Program} {ops : Array Oper} {Q : Exit → Act → World → Prop} {md : Region.Mode} {cs : List (Nat × (World → Prop))}

def Until (cs : List (Nat × (World → Prop))) (l : Array Bool) (w : World) : Prop := ∀ x ∈ cs, l.getD x.1 true = false → x.2 w

theorem Until.put {l : Array Bool} {i : Nat} {w : World} (hne : ∀ x ∈ cs, x.1 ≠ i) : Until cs (l.setIfInBounds i true) w ↔ Until cs l w := by
  constructor
  · intro h x hx hl
    exact h x hx (by rw [getD_set_ne true (Ne.symm (hne x hx))]; exact hl)
  · intro h x hx hl
    exact h x hx (by rw [getD_set_ne true (Ne.symm (hne x hx))] at hl; exact hl)

theorem Until.nil {l : Array Bool} {w : World} : Until [] l w := fun _ h => by cases h
theorem Until.cons {l : Array Bool} {w : World} {d : Nat} {S : World → Prop} (h : l.getD d true = false → S w) (h2 : Until cs l w) : Until ((d, S) :: cs) l w := by
  intro x hx hl
  rcases List.mem_cons.1 hx with rfl | hx
  · exact h hl
  · exact h2 x hx hl

def AnyU (P : Program) (md : Region.Mode) (ops : Array Oper) (Q : Exit → Act → World → Prop) (cs : List (Nat × (World → Prop))) : Nat → Array Bool → Act → World → Prop
  | 0, l, a, w => Region.ready md ops l = [] ∧ Q .normal a w
  | n + 1, l, a, w => (Region.ready md ops l = [] → Q .normal a w) ∧
      ∀ i ∈ Region.ready md ops l, wpOp P ops Q i (fun a' w' => Until cs (l.setIfInBounds i true) w' ∧ AnyU P md ops Q cs n (l.setIfInBounds i true) a' w') a w

theorem AnyU.any : ∀ (n : Nat) (l : Array Bool) (a : Act) (w : World), AnyU P md ops Q cs n l a w → wpAny P md ops Q n l a w
  | 0, _, _, _, h => h
  | n + 1, _, _, _, h => ⟨h.1, fun i hi => wpOp_mono (fun a' w' h' => AnyU.any n _ a' w' h'.2) (h.2 i hi)⟩

def Gives (md : Region.Mode) (ops : Array Oper) (cs : List (Nat × (World → Prop))) (i : Nat) (Si : World → Prop) (l : Array Bool) : Prop :=
  (∀ w, Si w) ∨ ∃ d od, ops[d]? = some od ∧ (∃ e ∈ od.after, Region.binds md e = true ∧ e.on = i) ∧ (d, Si) ∈ cs ∧ l.getD d true = false

theorem Gives.holds {i : Nat} {Si : World → Prop} {l : Array Bool} {w : World} (h : Gives md ops cs i Si l) (hS : Until cs l w) : Si w := by
  rcases h with h | ⟨d, od, -, -, hm, hl⟩
  · exact h w
  · exact hS _ hm hl

theorem Gives.step {i j : Nat} {Si : World → Prop} {l : Array Bool} (h : Gives md ops cs i Si l) (hi : i ∈ Region.ready md ops l) (hj : j ∈ Region.ready md ops l) : Gives md ops cs i Si (l.setIfInBounds j true) := by
  rcases h with h | ⟨d, od, hd, ⟨e, he, hb, heq⟩, hm, hl⟩
  · exact .inl h
  refine .inr ⟨d, od, hd, ⟨e, he, hb, heq⟩, hm, ?_⟩
  by_cases hjd : j = d
  · subst hjd
    obtain ⟨-, oj, hoj, hall⟩ := mem_ready.1 hj
    rw [hd] at hoj
    obtain rfl := Option.some.inj hoj
    have h1 := hall e he hb
    have h0 := (mem_ready.1 hi).1
    rw [heq] at h1
    rcases Nat.lt_or_ge i l.size with h' | h'
    · simp [h'] at h0 h1; rw [h0] at h1; cases h1
    · simp [Array.getElem?_eq_none h'] at h1
  · rw [getD_set_ne true hjd]; exact hl

theorem AnyU.first {i : Nat} {oi : Oper} {v : Value} {Si : World → Prop} (hi : ops[i]? = some oi) (hsel : ∀ (j : Nat) (o : Oper) xs b, ops[j]? = some o → o.op ≠ .select xs b)
    (hQ : ∀ c a w, Q (.panic c) (a.put oi.dst v) w → Q (.panic c) a w) (hne : ∀ x ∈ cs, x.1 ≠ i) :
    ∀ (n : Nat) (l : Array Bool) (a : Act) (w : World),
      (∀ j oj, ops[j]? = some oj → j ≠ i → l.getD j true = false → (∀ e ∈ oj.after, Region.binds md e = true → e.on ≠ i) → oi.apart ops oj = true) →
      i ∈ Region.ready md ops l → Gives md ops cs i Si l → YieldsIf P ops Si oi v a → Until cs l w →
      AnyU P md ops Q cs n (l.setIfInBounds i true) (a.put oi.dst v) w → AnyU P md ops Q cs (n + 1) l a w := by
  intro n
  induction n with
  | zero =>
    intro l a w _ hr hg hy hS H
    refine ⟨fun h => (by rw [h] at hr; cases hr), fun j hj => ?_⟩
    by_cases hji : j = i
    · subst hji; exact hy.wpOp hi (hg.holds hS) ⟨(Until.put hne).2 hS, H⟩
    · have := ready_mono hj hji
      rw [H.1] at this
      cases this
  | succ n ih =>
    intro l a w hfree hr hg hy hS H
    refine ⟨fun h => (by rw [h] at hr; cases hr), fun j hj => ?_⟩
    by_cases hji : j = i
    · subst hji; exact hy.wpOp hi (hg.holds hS) ⟨(Until.put hne).2 hS, H⟩
    obtain ⟨hjun, oj, hoj, hall⟩ := mem_ready.1 hj
    have hnot : ∀ e ∈ oj.after, Region.binds md e = true → e.on ≠ i := fun e he hb heq => by
      have h1 := hall e he hb
      have h0 := (mem_ready.1 hr).1
      rw [heq] at h1
      rcases Nat.lt_or_ge i l.size with h' | h'
      · simp [h'] at h0 h1; rw [h0] at h1; cases h1
      · simp [Array.getElem?_eq_none h'] at h1
    have h2 := wpOp_putIf hoj (hfree j oj hoj hji hjun hnot) (fun xs b => hsel i oi xs b hi) (fun xs b => hsel j oj xs b hoj) hQ hy (H.2 j (ready_mono hj hji))
    refine wpOp_mono (fun a' w' h3 => ?_) h2
    obtain ⟨hy', hu, hA⟩ := h3
    rw [Array.setIfInBounds_comm _ _ (Ne.symm hji)] at hu hA
    have hu' := (Until.put hne).1 hu
    refine ⟨hu', ih _ a' w' (fun k ok hk hki hun hno => hfree k ok hk hki ?_ hno) (ready_mono hr (Ne.symm hji)) (hg.step hr hj) hy' hu' hA⟩
    by_cases hjk : j = k
    · subst hjk; exact hjun
    · rw [getD_set_ne true hjk] at hun; exact hun

theorem AnyU.take {i : Nat} {oi : Oper} {v : Value} {n : Nat} {l : Array Bool} {a : Act} {w : World} (hi : ops[i]? = some oi) (hs : Region.noSelect ops = true)
    (hf : Region.free md ops l i = true) (hr : (Region.ready md ops l).contains i = true) (hQ : ∀ c a w, Q (.panic c) (a.put oi.dst v) w → Q (.panic c) a w)
    (hne : (cs.all fun x => x.1 != i) = true) (hS : Until cs l w) (hw : Region.wanted oi (yielded ops a.tmps) = true) (hy : ∀ w, (execOp a.eval oi).run P w = .ok (.value v) w)
    (h : Until cs (l.setIfInBounds i true) w → AnyU P md ops Q cs n (l.setIfInBounds i true) (a.put oi.dst v) w) : AnyU P md ops Q cs (n + 1) l a w :=
  AnyU.first (Si := fun _ => True) hi (Region.noSelect_spec hs) hQ (by simpa using hne) n l a w (Region.free_spec hi hf) (by simpa using hr) (.inl fun _ => trivial) (.inl ⟨hw, fun w _ => hy w⟩) hS (h ((Until.put (by simpa using hne)).2 hS))

theorem AnyU.load {i d : Nat} {oi od : Oper} {v : Value} {Si : World → Prop} {n : Nat} {l : Array Bool} {a : Act} {w : World} (hi : ops[i]? = some oi) (hd : ops[d]? = some od) (hs : Region.noSelect ops = true)
    (hf : Region.free md ops l i = true) (hr : (Region.ready md ops l).contains i = true) (hQ : ∀ c a w, Q (.panic c) (a.put oi.dst v) w → Q (.panic c) a w)
    (hne : (cs.all fun x => x.1 != i) = true) (hS : Until cs l w) (he : (od.after.any fun e => Region.binds md e && e.on == i) = true) (hl : l.getD d true = false) (hm : (d, Si) ∈ cs)
    (hw : Region.wanted oi (yielded ops a.tmps) = true) (hy : ∀ w, Si w → (execOp a.eval oi).run P w = .ok (.value v) w)
    (h : Until cs (l.setIfInBounds i true) w → AnyU P md ops Q cs n (l.setIfInBounds i true) (a.put oi.dst v) w) : AnyU P md ops Q cs (n + 1) l a w :=
  AnyU.first (Si := Si) hi (Region.noSelect_spec hs) hQ (by simpa using hne) n l a w (Region.free_spec hi hf) (by simpa using hr)
    (.inr ⟨d, od, hd, (by obtain ⟨e, he, hb⟩ := Array.any_eq_true'.1 he; exact ⟨e, he, by simpa using hb⟩), hm, hl⟩) (.inl ⟨hw, hy⟩) hS (h ((Until.put (by simpa using hne)).2 hS))

theorem AnyU.one {i : Nat} {o : Oper} {n : Nat} {l : Array Bool} {a : Act} {w : World} (ho : ops[i]? = some o)
    (h : ∀ K' : Act → World → Prop, Shut (∀ a w, Until cs (l.setIfInBounds i true) w → (Until cs (l.setIfInBounds i true) w → AnyU P md ops Q cs n (l.setIfInBounds i true) a w) → K' a w) → if Region.wanted o (yielded ops a.tmps) = true then Oper.wp P o a w K' Q else K' (a.put o.dst undef) w) :
    wpOp P ops Q i (fun a' w' => Until cs (l.setIfInBounds i true) w' ∧ AnyU P md ops Q cs n (l.setIfInBounds i true) a' w') a w :=
  wpOp_step ho (fun K' hK => h K' (fun a w hS hW => hK a w ⟨hS, hW hS⟩))

theorem AnyU.ready1 {i : Nat} {n : Nat} {l : Array Bool} {a : Act} {w : World} (hr : Region.ready md ops l = [i])
    (h : wpOp P ops Q i (fun a' w' => Until cs (l.setIfInBounds i true) w' ∧ AnyU P md ops Q cs n (l.setIfInBounds i true) a' w') a w) : AnyU P md ops Q cs (n + 1) l a w :=
  ⟨fun h0 => (by rw [hr] at h0; cases h0), fun j hj => by rw [hr] at hj; obtain rfl := List.mem_singleton.1 hj; exact h⟩

theorem AnyU.ready2 {i j : Nat} {n : Nat} {l : Array Bool} {a : Act} {w : World} (hr : Region.ready md ops l = [i, j])
    (h : wpOp P ops Q i (fun a' w' => Until cs (l.setIfInBounds i true) w' ∧ AnyU P md ops Q cs n (l.setIfInBounds i true) a' w') a w)
    (h2 : wpOp P ops Q j (fun a' w' => Until cs (l.setIfInBounds j true) w' ∧ AnyU P md ops Q cs n (l.setIfInBounds j true) a' w') a w) : AnyU P md ops Q cs (n + 1) l a w :=
  ⟨fun h0 => (by rw [hr] at h0; cases h0), fun k hk => by
    rw [hr] at hk
    rcases List.mem_cons.1 hk with rfl | hk
    · exact h
    · obtain rfl := List.mem_singleton.1 hk; exact h2⟩

theorem AnyU.done {n : Nat} {l : Array Bool} {a : Act} {w : World} (hr : Region.ready md ops l = []) (h : Q .normal a w) : AnyU P md ops Q cs n l a w := by
  cases n with
  | zero => exact ⟨hr, h⟩
  | succ n => exact ⟨fun _ => h, by rw [hr]; simp⟩

theorem wp_region_until {id : Nat} {a : Act} {w : World} (cs : List (Nat × (World → Prop))) (hm : P.follows .mixedOrders = true)
    (hS : Until cs (Array.replicate ops.size false) w.drew) (h : Until cs (Array.replicate ops.size false) w.drew → AnyU P .any ops Q cs ops.size (Array.replicate ops.size false) a w.drew) : (Code.region id ops true).wp P Q a w :=
  wp_region_any hm (AnyU.any _ _ _ _ (h hS))
end
end Go.Proofs.YtjeldfipipkfiaaGreat
namespace Go.Proofs.YtjeldfipipkfiaaGreat
section
variable {P : Program} {ops : Array Oper} {Q : Exit → Act → World → Prop} {md : Region.Mode} {cs : List (Nat × (World → Prop))}

def chainB (md : Region.Mode) (ops : Array Oper) (l : Array Bool) : Nat → List Nat → Bool
  | _, [] => true
  | i, m :: ms => (match ops[m]? with | some om => om.after.any fun e => Region.binds md e && e.on == i | none => false) && !l.getD m true && chainB md ops l m ms

theorem unlisted_wait {l : Array Bool} {i j : Nat} {oj : Oper} (hi : l.getD i true = false) (hj : j ∈ Region.ready md ops l) (ho : ops[j]? = some oj) (hw : (oj.after.any fun e => Region.binds md e && e.on == i) = true) : False := by
  obtain ⟨-, oj', hoj, hall⟩ := mem_ready.1 hj
  rw [ho] at hoj
  obtain rfl := Option.some.inj hoj
  obtain ⟨e, he, hb⟩ := Array.any_eq_true'.1 hw
  have hb : Region.binds md e = true ∧ e.on = i := by simpa using hb
  have h1 := hall e he hb.1
  rw [hb.2] at h1
  rcases Nat.lt_or_ge i l.size with h' | h'
  · simp [h'] at hi h1; rw [hi] at h1; cases h1
  · simp [Array.getElem?_eq_none h'] at h1

theorem chain_step : ∀ (ch : List Nat) {l : Array Bool} {i j : Nat}, chainB md ops l i ch = true → l.getD i true = false → j ∈ Region.ready md ops l → chainB md ops (l.setIfInBounds j true) i ch = true
  | [], _, _, _, _, _, _ => rfl
  | m :: ms, l, i, j, h, hi, hj => by
    rw [chainB, Bool.and_eq_true, Bool.and_eq_true] at h ⊢
    obtain ⟨⟨h1, h2⟩, h3⟩ := h
    have hm : l.getD m true = false := by simpa using h2
    have hne : j ≠ m := by
      rintro rfl
      cases ho : ops[j]? with
      | none => rw [ho] at h1; cases h1
      | some oj => rw [ho] at h1; exact unlisted_wait hi hj ho h1
    exact ⟨⟨h1, by rw [getD_set_ne true hne]; exact h2⟩, chain_step ms h3 hm hj⟩

theorem chain_last : ∀ (ch : List Nat) {l : Array Bool} {i d : Nat}, chainB md ops l i ch = true → ch.getLast? = some d → l.getD d true = false
  | [], _, _, _, _, h => by cases h
  | [m], _, _, _, h, hd => by
    rw [chainB, Bool.and_eq_true, Bool.and_eq_true] at h
    cases hd
    simpa using h.1.2
  | m :: m' :: ms, l, i, d, h, hd => by
    rw [chainB, Bool.and_eq_true] at h
    exact chain_last (m' :: ms) h.2 (by simpa using hd)

theorem AnyU.firstc {i d : Nat} {oi : Oper} {v : Value} {Si : World → Prop} {ch : List Nat} (hi : ops[i]? = some oi) (hsel : ∀ (j : Nat) (o : Oper) xs b, ops[j]? = some o → o.op ≠ .select xs b)
    (hQ : ∀ c a w, Q (.panic c) (a.put oi.dst v) w → Q (.panic c) a w) (hne : ∀ x ∈ cs, x.1 ≠ i) (hlast : ch.getLast? = some d) (hm : (d, Si) ∈ cs) :
    ∀ (n : Nat) (l : Array Bool) (a : Act) (w : World),
      (∀ j oj, ops[j]? = some oj → j ≠ i → l.getD j true = false → (∀ e ∈ oj.after, Region.binds md e = true → e.on ≠ i) → oi.apart ops oj = true) →
      i ∈ Region.ready md ops l → chainB md ops l i ch = true → YieldsIf P ops Si oi v a → Until cs l w →
      AnyU P md ops Q cs n (l.setIfInBounds i true) (a.put oi.dst v) w → AnyU P md ops Q cs (n + 1) l a w := by
  intro n
  induction n with
  | zero =>
    intro l a w _ hr hg hy hS H
    refine ⟨fun h => (by rw [h] at hr; cases hr), fun j hj => ?_⟩
    by_cases hji : j = i
    · subst hji; exact hy.wpOp hi (hS _ hm (chain_last ch hg hlast)) ⟨(Until.put hne).2 hS, H⟩
    · have := ready_mono hj hji
      rw [H.1] at this
      cases this
  | succ n ih =>
    intro l a w hfree hr hg hy hS H
    refine ⟨fun h => (by rw [h] at hr; cases hr), fun j hj => ?_⟩
    by_cases hji : j = i
    · subst hji; exact hy.wpOp hi (hS _ hm (chain_last ch hg hlast)) ⟨(Until.put hne).2 hS, H⟩
    obtain ⟨hjun, oj, hoj, hall⟩ := mem_ready.1 hj
    have hiun := (mem_ready.1 hr).1
    have hnot : ∀ e ∈ oj.after, Region.binds md e = true → e.on ≠ i := fun e he hb heq =>
      unlisted_wait hiun hj hoj (Array.any_eq_true'.2 ⟨e, he, by simp [hb, heq]⟩)
    have h2 := wpOp_putIf hoj (hfree j oj hoj hji hjun hnot) (fun xs b => hsel i oi xs b hi) (fun xs b => hsel j oj xs b hoj) hQ hy (H.2 j (ready_mono hj hji))
    refine wpOp_mono (fun a' w' h3 => ?_) h2
    obtain ⟨hy', hu, hA⟩ := h3
    rw [Array.setIfInBounds_comm _ _ (Ne.symm hji)] at hu hA
    have hu' := (Until.put hne).1 hu
    refine ⟨hu', ih _ a' w' (fun k ok hk hki hun hno => hfree k ok hk hki ?_ hno) (ready_mono hr (Ne.symm hji)) (chain_step ch hg hiun hj) hy' hu' hA⟩
    by_cases hjk : j = k
    · subst hjk; exact hjun
    · rw [getD_set_ne true hjk] at hun; exact hun

theorem AnyU.loadc {i d : Nat} (ch : List Nat) {oi : Oper} {v : Value} {Si : World → Prop} {n : Nat} {l : Array Bool} {a : Act} {w : World} (hi : ops[i]? = some oi) (hs : Region.noSelect ops = true)
    (hf : Region.free md ops l i = true) (hr : (Region.ready md ops l).contains i = true) (hQ : ∀ c a w, Q (.panic c) (a.put oi.dst v) w → Q (.panic c) a w)
    (hne : (cs.all fun x => x.1 != i) = true) (hS : Until cs l w) (hc : chainB md ops l i ch = true) (hlast : ch.getLast? = some d) (hm : (d, Si) ∈ cs)
    (hw : Region.wanted oi (yielded ops a.tmps) = true) (hy : ∀ w, Si w → (execOp a.eval oi).run P w = .ok (.value v) w)
    (h : Until cs (l.setIfInBounds i true) w → AnyU P md ops Q cs n (l.setIfInBounds i true) (a.put oi.dst v) w) : AnyU P md ops Q cs (n + 1) l a w :=
  AnyU.firstc (Si := Si) hi (Region.noSelect_spec hs) hQ (by simpa using hne) hlast hm n l a w (Region.free_spec hi hf) (by simpa using hr) hc (.inl ⟨hw, hy⟩) hS (h ((Until.put (by simpa using hne)).2 hS))
end
end Go.Proofs.YtjeldfipipkfiaaGreat
namespace Go.Proofs.YtjeldfipipkfiaaGreat
section
variable {P : Program} {ops : Array Oper} {Q : Exit → Act → World → Prop} {md : Region.Mode} {cs : List (Nat × (World → Prop))}
theorem AnyU.skip {i : Nat} {oi : Oper} {n : Nat} {l : Array Bool} {a : Act} {w : World} (hi : ops[i]? = some oi) (hs : Region.noSelect ops = true)
    (hf : Region.free md ops l i = true) (hr : (Region.ready md ops l).contains i = true) (hQ : ∀ c a w, Q (.panic c) (a.put oi.dst undef) w → Q (.panic c) a w)
    (hne : (cs.all fun x => x.1 != i) = true) (hS : Until cs l w) (hw : Region.wanted oi (yielded ops a.tmps) = false)
    (h : Until cs (l.setIfInBounds i true) w → AnyU P md ops Q cs n (l.setIfInBounds i true) (a.put oi.dst undef) w) : AnyU P md ops Q cs (n + 1) l a w :=
  AnyU.first (Si := fun _ => True) hi (Region.noSelect_spec hs) hQ (by simpa using hne) n l a w (Region.free_spec hi hf) (by simpa using hr) (.inl fun _ => trivial) (.inr ⟨hw, rfl⟩) hS (h ((Until.put (by simpa using hne)).2 hS))
end
end Go.Proofs.YtjeldfipipkfiaaGreat
namespace Go.Proofs.YtjeldfipipkfiaaGreat
open Go.RowKit
set_option linter.unusedSimpArgs false
set_option linter.unusedVariables false
theorem Until.offT {cs : List (Nat × (World → Prop))} {l : Array Bool} {w : World} (h : (cs.all fun x => l.getD x.1 true) = true) : Until cs l w := fun x hx hl => by
  have := List.all_eq_true.1 h x hx
  rw [hl] at this
  cases this
theorem laidD (w : World) (C : Array Value) (T : TypeId) : Blk ((w.alloc (.cells C T)).drew) w.heap.size C T ∧ Below w.heap.size w ((w.alloc (.cells C T)).drew) ∧ ((w.alloc (.cells C T)).drew).heap.size = w.heap.size + 1 :=
  ⟨(Blk.new _ _ _).drew, ((Below.refl _ _).alloc (Nat.le_refl _) _).drew, by show (w.alloc (.cells C T)).heap.size = _; simp⟩
theorem laidN (w : World) (C : Array Value) (T : TypeId) : Blk (w.alloc (.cells C T)) w.heap.size C T ∧ Below w.heap.size w (w.alloc (.cells C T)) ∧ (w.alloc (.cells C T)).heap.size = w.heap.size + 1 :=
  ⟨Blk.new w C T, (Below.refl w.heap.size w).alloc (Nat.le_refl _) _, by simp⟩
theorem laidNX (w : World) (C : Array Value) (T : TypeId)  : ∃ W, W = (w.alloc (.cells C T)) ∧ Blk W w.heap.size C T ∧ Below w.heap.size w W ∧ W.heap.size = w.heap.size + 1 :=
  ⟨_, rfl, laidN w C T⟩
theorem cellsT1 {w : World} {g : Nat} {T : TypeId} {x0 : Value} (h : Blk w g #[x0] T) : w.cell? ⟨g, 0, none⟩ = some x0 := h.cell 0
theorem cellsT3 {w : World} {g : Nat} {T : TypeId} {x0 x1 x2 : Value} (h : Blk w g #[x0, x1, x2] T) :
    w.cell? ⟨g, 0, none⟩ = some x0 ∧ w.cell? ⟨g, 1, none⟩ = some x1 ∧ w.cell? ⟨g, 2, none⟩ = some x2 := ⟨h.cell 0, h.cell 1, h.cell 2⟩
theorem cellsT4 {w : World} {g : Nat} {T : TypeId} {x0 x1 x2 x3 : Value} (h : Blk w g #[x0, x1, x2, x3] T) :
    w.cell? ⟨g, 0, none⟩ = some x0 ∧ w.cell? ⟨g, 1, none⟩ = some x1 ∧ w.cell? ⟨g, 2, none⟩ = some x2 ∧ w.cell? ⟨g, 3, none⟩ = some x3 := ⟨h.cell 0, h.cell 1, h.cell 2, h.cell 3⟩
theorem cellsT7 {w : World} {g : Nat} {T : TypeId} {x0 x1 x2 x3 x4 x5 x6 : Value} (h : Blk w g #[x0, x1, x2, x3, x4, x5, x6] T) :
    w.cell? ⟨g, 0, none⟩ = some x0 ∧ w.cell? ⟨g, 1, none⟩ = some x1 ∧ w.cell? ⟨g, 2, none⟩ = some x2 ∧ w.cell? ⟨g, 3, none⟩ = some x3 ∧ w.cell? ⟨g, 4, none⟩ = some x4 ∧ w.cell? ⟨g, 5, none⟩ = some x5 ∧ w.cell? ⟨g, 6, none⟩ = some x6 :=
  ⟨h.cell 0, h.cell 1, h.cell 2, h.cell 3, h.cell 4, h.cell 5, h.cell 6⟩
theorem cellsT8 {w : World} {g : Nat} {T : TypeId} {x0 x1 x2 x3 x4 x5 x6 x7 : Value} (h : Blk w g #[x0, x1, x2, x3, x4, x5, x6, x7] T) :
    w.cell? ⟨g, 0, none⟩ = some x0 ∧ w.cell? ⟨g, 1, none⟩ = some x1 ∧ w.cell? ⟨g, 2, none⟩ = some x2 ∧ w.cell? ⟨g, 3, none⟩ = some x3 ∧ w.cell? ⟨g, 4, none⟩ = some x4 ∧ w.cell? ⟨g, 5, none⟩ = some x5 ∧ w.cell? ⟨g, 6, none⟩ = some x6 ∧ w.cell? ⟨g, 7, none⟩ = some x7 :=
  ⟨h.cell 0, h.cell 1, h.cell 2, h.cell 3, h.cell 4, h.cell 5, h.cell 6, h.cell 7⟩
theorem cellsT9 {w : World} {g : Nat} {T : TypeId} {x0 x1 x2 x3 x4 x5 x6 x7 x8 : Value} (h : Blk w g #[x0, x1, x2, x3, x4, x5, x6, x7, x8] T) :
    w.cell? ⟨g, 0, none⟩ = some x0 ∧ w.cell? ⟨g, 1, none⟩ = some x1 ∧ w.cell? ⟨g, 2, none⟩ = some x2 ∧ w.cell? ⟨g, 3, none⟩ = some x3 ∧ w.cell? ⟨g, 4, none⟩ = some x4 ∧ w.cell? ⟨g, 5, none⟩ = some x5 ∧ w.cell? ⟨g, 6, none⟩ = some x6 ∧ w.cell? ⟨g, 7, none⟩ = some x7 ∧ w.cell? ⟨g, 8, none⟩ = some x8 :=
  ⟨h.cell 0, h.cell 1, h.cell 2, h.cell 3, h.cell 4, h.cell 5, h.cell 6, h.cell 7, h.cell 8⟩
end Go.Proofs.YtjeldfipipkfiaaGreat
