/- When a client (api.Uses) is typed, in plain words; the laws of BumpSafe, WitnessExact, WitnessAlike. Plain Lean; no condition. -/
import Derived.Test.YtjeldfipipkfiaaGreatGExp
import Derived.Test.YtjeldfipipkfiaaGreatBrkP
namespace Go.Proofs.YtjeldfipipkfiaaGreat
open Go.RowKit
set_option linter.unusedSimpArgs false
set_option linter.unusedVariables false
structure Ln where
  kind : Int
  mod : ByteArray
  name : ByteArray
  ty : Ty
structure Us where
  imps : List Imp
  lines : List Ln
def lnOk (l : Ln) : Bool := ((l.kind == 1 && smallB l.name) || (l.kind == 2 && greatB l.name)) && (smallB l.mod && mayT l.ty)
def mayU (u : Us) : Bool := decide (u.imps.length ≤ 20) && (decide (u.lines.length ≤ 60) && (u.imps.all impOk && u.lines.all lnOk))
def nmC : ByteArray := { data := #[99] }
def envU (u : Us) (env : List If) : Env := ⟨⟨nmC, u.imps, []⟩, nmC, 1, env⟩
def hasF (x : If) (l : Ln) : Option Nm := firstNamed (if l.kind = 1 then x.vals else x.types) l.name
def TypedOk (u : Us) (env : List If) (l : Ln) : Prop := ∃ i t f n, u.imps.find? (isImp l.mod) = some i ∧ ExpIs (envU u env) l.ty 0 t ∧ env.find? (isIf i) = some f ∧ hasF f l = some n ∧ (l.kind = 1 → SubB n.ty t = true) ∧ (l.kind ≠ 1 → sameB n.ty t = true)
def UsesOk (u : Us) (env : List If) : Prop := mayU u = true ∧ env.length ≤ 100 ∧ (∀ i, i < u.imps.length → twiceI u.imps i = false) ∧ ∀ l ∈ u.lines, TypedOk u env l
def lookE (env : List If) (i : Imp) (o : Bool) (s : ByteArray) : Option Nm := match env.find? (isIf i) with
  | none => none
  | some f => firstNamed (if o = true then f.types else f.vals) s
structure Covers (env env' : List If) (i : Imp) : Prop where
  types : ∀ s n, lookE env i true s = some n → ∃ n', lookE env' i true s = some n' ∧ n'.ty = n.ty
  vals : ∀ s n, lookE env i false s = some n → ∃ n', lookE env' i false s = some n' ∧ (n'.ty = n.ty ∨ SubB n'.ty n.ty = true)
theorem Covers.rfl (env : List If) (i : Imp) : Covers env env i := ⟨fun s n h => ⟨n, h, Eq.refl _⟩, fun s n h => ⟨n, h, .inl (Eq.refl _)⟩⟩
theorem thereF_look {m : Mdl} {env : List If} {l : Ty} {i : Imp} (hi : m.imps.find? (isImp l.mod) = some i) : thereF m env l = match lookE env i true l.name with | none => (zT, false) | some n => (n.ty, PlainB n.ty) := by
  rw [thereF, hi, lookE]
  show (match env.find? (isIf i) with | none => _ | some f => _) = _
  cases env.find? (isIf i) with
  | none => rfl
  | some f =>
    show (match f.types.find? (isNm l.name) with | none => _ | some n => _) = match firstNamed (if true = true then f.types else f.vals) l.name with | none => (zT, false) | some n => (n.ty, PlainB n.ty)
    rw [if_pos (Eq.refl true)]
    rfl
theorem there_cover {m : Mdl} {env env' : List If} (hc : ∀ i ∈ m.imps, Covers env env' i) {l : Ty} (h : (thereF m env l).2 = true) : thereF m env' l = thereF m env l := by
  cases hi : m.imps.find? (isImp l.mod) with
  | none => rw [thereF, hi] at h; cases h
  | some i =>
    rw [thereF_look hi] at h ⊢
    rw [thereF_look hi]
    cases hl : lookE env i true l.name with
    | none => rw [hl] at h; cases h
    | some n =>
      obtain ⟨n', h1, h2⟩ := (hc i (List.mem_of_find?_eq_some hi)).types _ _ hl
      rw [h1]
      show (n'.ty, PlainB n'.ty) = (n.ty, PlainB n.ty)
      rw [h2]
theorem had_cover {E E' : Env} (hm : E.m = E'.m) (hc : ∀ i ∈ E.m.imps, Covers E.env E'.env i) {l : Ty} (h : hadB E l = true) : hadB E' l = true := by
  rw [hadB] at h ⊢
  cases hmo : l.mod.toList.isEmpty
  · rw [hmo, Bool.false_or] at h
    rw [Bool.false_or, ← hm, there_cover hc h]; exact h
  · rfl
theorem Exp.cover {E E' : Env} (hm : E.m = E'.m) (hp : E.pkg = E'.pkg) (hj : E.major = E'.major) (hc : ∀ i ∈ E.m.imps, Covers E.env E'.env i) {t x : Ty} (h : Exp E t x) : Exp E' t x := by
  induction h with
  | alias h8 hmo hd h3 _ ih => exact .alias h8 hmo (by rw [← hm]; exact hd) h3 ih
  | @opn t d h8 hmo hd h3 =>
    have : openT E t.name = openT E' t.name := by rw [openT, openT, hp, hj, hm]
    rw [this]
    exact .opn h8 hmo (by rw [← hm]; exact hd) h3
  | @there t x h8 hmo hp2 _ ih =>
    have e : thereF E'.m E'.env t = thereF E.m E.env t := by rw [← hm]; exact there_cover hc hp2
    exact .there h8 hmo (by rw [e]; exact hp2) (by rw [e]; exact ih)
  | node h8 hl _ ih => exact .node h8 hl ih
theorem ExpIs.cover {E E' : Env} (hm : E.m = E'.m) (hp : E.pkg = E'.pkg) (hj : E.major = E'.major) (hc : ∀ i ∈ E.m.imps, Covers E.env E'.env i) (hl : E'.env.length ≤ 100) {t x : Ty} (h : ExpIs E t 0 x) : ExpIs E' t 0 x := by
  obtain ⟨ha, hk, hco, hx, hf⟩ := h.result
  refine .inr (.inr (.inr ⟨?_, ?_, ?_, x, hx.cover hm hp hj hc, .inl ⟨hf, rfl, rfl⟩⟩))
  · simp only [argB, Bool.and_eq_true, decide_eq_true_eq] at ha ⊢
    rw [← hm, ← hp, ← hj]
    exact ⟨ha.1, ha.2.1, ha.2.2.1, ha.2.2.2.1, ha.2.2.2.2.1, hl⟩
  · rw [knownB, ← hm]; exact hk
  · rw [complB, Bool.and_eq_true, List.all_eq_true, List.all_eq_true] at hco ⊢
    refine ⟨fun l h => had_cover hm hc (hco.1 l h), fun s hs => ?_⟩
    rw [← hm] at hs ⊢
    have := hco.2 s hs
    rw [List.all_eq_true] at this ⊢
    exact fun l h => had_cover hm hc (this l h)
theorem typed_cover {u : Us} {env env' : List If} (hc : ∀ i ∈ u.imps, Covers env env' i) (hl : env'.length ≤ 100) {l : Ln} (h : TypedOk u env l) : TypedOk u env' l := by
  obtain ⟨i, t, f, n, h1, h2, h3, h4, h5, h6⟩ := h
  have ht := ExpIs.cover (E := envU u env) (E' := envU u env') rfl rfl rfl hc hl h2
  have hci := hc i (List.mem_of_find?_eq_some h1)
  have hfin : ∀ o n', lookE env' i o l.name = some n' → o = (!decide (l.kind = 1)) → ∃ f', env'.find? (isIf i) = some f' ∧ hasF f' l = some n' := by
    intro o n' hh ho
    rw [lookE] at hh
    cases hf : env'.find? (isIf i) with
    | none => rw [hf] at hh; cases hh
    | some f' =>
      rw [hf] at hh
      refine ⟨f', rfl, ?_⟩
      rw [hasF, ← hh]
      by_cases hk : l.kind = 1
      · simp [hk, ho]
      · simp [hk, ho]
  by_cases hk : l.kind = 1
  · have hlk : lookE env i false l.name = some n := by rw [lookE, h3]; rw [hasF, if_pos hk] at h4; simpa using h4
    obtain ⟨n', e1, e2⟩ := hci.vals _ _ hlk
    obtain ⟨f', g1, g2⟩ := hfin false n' e1 (by simp [hk])
    refine ⟨i, t, f', n', h1, ht, g1, g2, fun _ => ?_, fun h => absurd hk h⟩
    have hs := h5 hk
    rcases e2 with e2 | e2
    · rw [e2]; exact hs
    · have p1 : PlainB n'.ty = true ∧ PlainB n.ty = true := by rw [SubB, Bool.and_eq_true, Bool.and_eq_true] at e2; exact ⟨e2.1, e2.2.1⟩
      have p2 : PlainB t = true := by rw [SubB, Bool.and_eq_true, Bool.and_eq_true] at hs; exact hs.2.1
      exact subB_trans p1.1 p1.2 p2 e2 hs
  · have hlk : lookE env i true l.name = some n := by rw [lookE, h3]; rw [hasF, if_neg hk] at h4; simpa using h4
    obtain ⟨n', e1, e2⟩ := hci.types _ _ hlk
    obtain ⟨f', g1, g2⟩ := hfin true n' e1 (by simp [hk])
    exact ⟨i, t, f', n', h1, ht, g1, g2, fun h => absurd h hk, fun h => by rw [e2]; exact h6 h⟩
theorem uses_cover {u : Us} {env env' : List If} (hc : ∀ i ∈ u.imps, Covers env env' i) (hl : env'.length ≤ 100) (h : UsesOk u env) : UsesOk u env' :=
  ⟨h.1, hl, h.2.2.1, fun l hx => typed_cover hc hl (h.2.2.2 l hx)⟩
/-! one package's interfaces -/
theorem may_len {l : List If} (h : mayP l = true) : l.length ≤ 20 := by
  rw [mayP, Bool.and_eq_true, decide_eq_true_eq] at h; exact h.2
theorem may_head {l : List If} (h : mayP l = true) {i : Nat} (hi : i < l.length) : l[i].pkg = (l[0]'(by omega)).pkg ∧ l[i].major = (l[0]'(by omega)).major ∧ (0 < i → ltB (l[i - 1]'(by omega)).mod l[i].mod = true) := by
  rw [mayP, Bool.and_eq_true, List.all_eq_true] at h
  have := h.1 i (List.mem_range.2 hi)
  rw [ipOk, dif_pos hi] at this
  simp only [Bool.and_eq_true, ba_eq, beq_iff_eq, decide_eq_true_eq, Bool.or_eq_true] at this
  obtain ⟨-, h1, h2, h3⟩ := this
  exact ⟨h1, h2, fun h0 => by rcases h3 with h3 | h3; omega; exact h3⟩
def isPM (p : ByteArray) (j : Int) (l : List If) : Prop := ∀ x ∈ l, x.pkg = p ∧ x.major = j
theorem may_pm {l : List If} (h : mayP l = true) (h0 : 0 < l.length) : isPM l[0].pkg l[0].major l := by
  intro x hx
  obtain ⟨i, hi, rfl⟩ := List.getElem_of_mem hx
  have := may_head h hi
  exact ⟨this.1, this.2.1⟩
theorem isIf_iff {i : Imp} {x : If} : isIf i x = true ↔ x.pkg = i.pkg ∧ x.major = i.major ∧ x.mod = i.mod := by
  rw [isIf, Bool.and_eq_true, Bool.and_eq_true, ba_eq, ba_eq, decide_eq_true_eq, decide_eq_true_eq, beq_iff_eq]
theorem find_pm {l : List If} {p : ByteArray} {j : Int} (h : isPM p j l) {i : Imp} (hp : i.pkg = p) (hj : i.major = j) : l.find? (isIf i) = firstIface l i.mod := by
  rw [firstIface]
  induction l with
  | nil => rfl
  | cons x l ih =>
    have hx := h x (by simp)
    have e : isIf i x = (x.mod.toList == i.mod.toList) := by rw [isIf, hx.1, hx.2, hp, hj, ba_yes rfl]; simp
    rw [List.find?_cons, List.find?_cons, e, ih fun y hy => h y (by simp [hy])]
theorem find_not {l : List If} {p : ByteArray} {j : Int} (h : isPM p j l) {i : Imp} (hp : ¬ (i.pkg = p ∧ i.major = j)) : l.find? (isIf i) = none := by
  rw [List.find?_eq_none]
  intro x hx hc
  obtain ⟨h1, h2, -⟩ := isIf_iff.1 hc
  have := h x hx
  exact hp ⟨h1.symm.trans this.1, h2.symm.trans this.2⟩
theorem lookE_pm {l : List If} {p : ByteArray} {j : Int} (h : isPM p j l) {i : Imp} (hp : i.pkg = p) (hj : i.major = j) {o : Bool} {s : ByteArray} : lookE l i o s = look l i.mod o s := by
  rw [lookE, find_pm h hp hj, look]
  cases firstIface l i.mod with
  | none => cases o <;> rfl
  | some f => rfl
theorem find_app {l r : List If} {i : Imp} : (l ++ r).find? (isIf i) = (l.find? (isIf i)).or (r.find? (isIf i)) := List.find?_append
theorem fair_pm {a b : List If} (h : fairB a b = true) (h0 : 0 < a.length) : isPM a[0].pkg a[0].major a ∧ isPM a[0].pkg a[0].major b := by
  rw [fairB, Bool.and_eq_true, Bool.and_eq_true] at h
  refine ⟨may_pm h.1 h0, ?_⟩
  cases b with
  | nil => intro x hx; cases hx
  | cons y b =>
    cases a with
    | nil => simp at h0
    | cons x a =>
      have hh := h.2.2
      rw [headB, Bool.and_eq_true, ba_eq, decide_eq_true_eq, beq_iff_eq] at hh
      have := may_pm h.2.1 (by simp)
      intro z hz
      have := this z hz
      exact ⟨this.1.trans hh.1.symm, this.2.trans hh.2.symm⟩
theorem look_cover {a b : List If} (h : fairB a b = true) (hb : ofF (chgF a b) ≠ 3) {m s : ByteArray} {o : Bool} {n : Nm} (hn : look a m o s = some n) :
    ∃ n', look b m o s = some n' ∧ (n'.ty = n.ty ∨ (o = false ∧ SubB n'.ty n.ty = true)) := by
  rw [fairB, Bool.and_eq_true, Bool.and_eq_true] at h
  have hk : ∀ k, kindO (look a m o s) (look b m o s) o = k → k = 1 ∨ k = 2 → False := fun k h1 h2 => hb (big_at (.inl (by rw [hn]; rfl)) h1 h2)
  cases hl : look b m o s with
  | none => exact (hk 1 (by rw [hn, hl]; rfl) (.inl rfl)).elim
  | some n' =>
    refine ⟨n', rfl, ?_⟩
    have pa := look_plain h.1 hn
    have pb := look_plain h.2.1 hl
    by_cases e : n.ty = n'.ty
    · exact .inl e.symm
    · refine .inr ?_
      have ht : ¬ turnF n.ty n'.ty o = 2 := fun h => hk 2 (by rw [hn, hl]; exact h) (.inr rfl)
      rw [turn_two pa pb] at ht
      have : ¬ (o = true ∨ SubB n'.ty n.ty = false) := fun h => ht ⟨e, h⟩
      rw [not_or] at this
      exact ⟨by simpa using this.1, by simpa using this.2⟩
theorem cover_of {a b r : List If} {i : Imp} (h : fairB a b = true) (h0 : 0 < a.length) (hb : ofF (chgF a b) ≠ 3) (hr : ∀ x ∈ r, ¬ (x.pkg = a[0].pkg ∧ x.major = a[0].major)) : Covers (a ++ r) (b ++ r) i := by
  obtain ⟨ha, hbm⟩ := fair_pm h h0
  by_cases hi : i.pkg = a[0].pkg ∧ i.major = a[0].major
  · have hrn : r.find? (isIf i) = none := by
      rw [List.find?_eq_none]
      intro x hx hc
      obtain ⟨h1, h2, -⟩ := isIf_iff.1 hc
      exact hr x hx ⟨h1.trans hi.1, h2.trans hi.2⟩
    have e1 : ∀ o s, lookE (a ++ r) i o s = look a i.mod o s := fun o s => by rw [← lookE_pm ha hi.1 hi.2, lookE, lookE, find_app, hrn, Option.or_none]
    have e2 : ∀ o s, lookE (b ++ r) i o s = look b i.mod o s := fun o s => by rw [← lookE_pm hbm hi.1 hi.2, lookE, lookE, find_app, hrn, Option.or_none]
    refine ⟨fun s n hn => ?_, fun s n hn => ?_⟩
    · rw [e1] at hn
      obtain ⟨n', h1, h2⟩ := look_cover h hb hn
      refine ⟨n', by rw [e2]; exact h1, ?_⟩
      rcases h2 with h2 | ⟨h2, -⟩
      · exact h2
      · cases h2
    · rw [e1] at hn
      obtain ⟨n', h1, h2⟩ := look_cover h hb hn
      exact ⟨n', by rw [e2]; exact h1, h2.imp id And.right⟩
  · have e1 : ∀ o s, lookE (a ++ r) i o s = lookE (b ++ r) i o s := fun o s => by rw [lookE, lookE, find_app, find_app, find_not ha hi, find_not hbm hi]
    exact ⟨fun s n hn => ⟨n, by rw [← e1]; exact hn, rfl⟩, fun s n hn => ⟨n, by rw [← e1]; exact hn, .inl rfl⟩⟩
theorem safe_law {a b r : List If} {u : Us} (h : fairB a b = true) (h0 : 0 < a.length) (hb : ofF (chgF a b) ≠ 3) (hr : ∀ x ∈ r, ¬ (x.pkg = a[0].pkg ∧ x.major = a[0].major)) (hl : r.length ≤ 50) (hu : UsesOk u (a ++ r)) : UsesOk u (b ++ r) := by
  have hlen : b.length ≤ 20 := by rw [fairB, Bool.and_eq_true, Bool.and_eq_true] at h; exact may_len h.2.1
  exact uses_cover (fun i _ => cover_of h h0 hb hr) (by rw [List.length_append]; omega) hu
/-! no change at all -/
/-! the client that breaks -/
def nmM : ByteArray := { data := #[109] }
def useF (k : Brk) : Us := ⟨[⟨k.x.pkg, k.x.major, k.x.mod, nmM⟩], [⟨if k.c.ofType = true then 2 else 1, nmM, k.c.name, k.t⟩]⟩
end Go.Proofs.YtjeldfipipkfiaaGreat
