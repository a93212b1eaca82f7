/- When a client (api.Uses) is typed, in plain words; the laws of BumpSafe, WitnessExact, WitnessAlike. Plain Lean; no condition. -/
import Derived.Test.YtjeldfipipkfiaaGreatDoorGExp
import Derived.Test.YtjeldfipipkfiaaGreatDoorBrkP
namespace Go.Proofs.YtjeldfipipkfiaaGreatDoor
open Go.RowKit
set_option linter.unusedSimpArgs false
set_option linter.unusedVariables false
structure Ln where
  kind : Int
  mod : ByteArray
  name : ByteArray
  ty : Ty
structure Us where
  imps : List Imp
  lines : List Ln
def lnOk (l : Ln) : Bool := ((l.kind == 1 && smallB l.name) || (l.kind == 2 && greatB l.name)) && (smallB l.mod && mayT l.ty)
def mayU (u : Us) : Bool := decide (u.imps.length ≤ 20) && (decide (u.lines.length ≤ 60) && (u.imps.all impOk && u.lines.all lnOk))
def nmC : ByteArray := { data := #[99] }
def envU (u : Us) (env : List If) : Env := ⟨⟨nmC, u.imps, []⟩, nmC, 1, env⟩
def hasF (x : If) (l : Ln) : Option Nm := firstNamed (if l.kind = 1 then x.vals else x.types) l.name
def TypedOk (u : Us) (env : List If) (l : Ln) : Prop := ∃ i t f n, u.imps.find? (isImp l.mod) = some i ∧ ExpIs (envU u env) l.ty 0 t ∧ env.find? (isIf i) = some f ∧ hasF f l = some n ∧ (l.kind = 1 → SubB n.ty t = true) ∧ (l.kind ≠ 1 → sameB n.ty t = true)
def UsesOk (u : Us) (env : List If) : Prop := mayU u = true ∧ env.length ≤ 100 ∧ (∀ i, i < u.imps.length → twiceI u.imps i = false) ∧ ∀ l ∈ u.lines, TypedOk u env l
def lookE (env : List If) (i : Imp) (o : Bool) (s : ByteArray) : Option Nm := match env.find? (isIf i) with
  | none => none
  | some f => firstNamed (if o = true then f.types else f.vals) s
structure Covers (env env' : List If) (i : Imp) : Prop where
  types : ∀ s n, lookE env i true s = some n → ∃ n', lookE env' i true s = some n' ∧ n'.ty = n.ty
  vals : ∀ s n, lookE env i false s = some n → ∃ n', lookE env' i false s = some n' ∧ (n'.ty = n.ty ∨ SubB n'.ty n.ty = true)
theorem Covers.rfl (env : List If) (i : Imp) : Covers env env i := ⟨fun s n h => ⟨n, h, Eq.refl _⟩, fun s n h => ⟨n, h, .inl (Eq.refl _)⟩⟩
/-! one package's interfaces -/
theorem may_len {l : List If} (h : mayP l = true) : l.length ≤ 20 := by
  rw [mayP, Bool.and_eq_true, decide_eq_true_eq] at h; exact h.2
theorem may_head {l : List If} (h : mayP l = true) {i : Nat} (hi : i < l.length) : l[i].pkg = (l[0]'(by omega)).pkg ∧ l[i].major = (l[0]'(by omega)).major ∧ (0 < i → ltB (l[i - 1]'(by omega)).mod l[i].mod = true) := by
  rw [mayP, Bool.and_eq_true, List.all_eq_true] at h
  have := h.1 i (List.mem_range.2 hi)
  rw [ipOk, dif_pos hi] at this
  simp only [Bool.and_eq_true, ba_eq, beq_iff_eq, decide_eq_true_eq, Bool.or_eq_true] at this
  obtain ⟨-, h1, h2, h3⟩ := this
  exact ⟨h1, h2, fun h0 => by rcases h3 with h3 | h3; omega; exact h3⟩
def isPM (p : ByteArray) (j : Int) (l : List If) : Prop := ∀ x ∈ l, x.pkg = p ∧ x.major = j
theorem may_pm {l : List If} (h : mayP l = true) (h0 : 0 < l.length) : isPM l[0].pkg l[0].major l := by
  intro x hx
  obtain ⟨i, hi, rfl⟩ := List.getElem_of_mem hx
  have := may_head h hi
  exact ⟨this.1, this.2.1⟩
theorem find_pm {l : List If} {p : ByteArray} {j : Int} (h : isPM p j l) {i : Imp} (hp : i.pkg = p) (hj : i.major = j) : l.find? (isIf i) = firstIface l i.mod := by
  rw [firstIface]
  induction l with
  | nil => rfl
  | cons x l ih =>
    have hx := h x (by simp)
    have e : isIf i x = (x.mod.toList == i.mod.toList) := by rw [isIf, hx.1, hx.2, hp, hj, ba_yes rfl]; simp
    rw [List.find?_cons, List.find?_cons, e, ih fun y hy => h y (by simp [hy])]
theorem fair_pm {a b : List If} (h : fairB a b = true) (h0 : 0 < a.length) : isPM a[0].pkg a[0].major a ∧ isPM a[0].pkg a[0].major b := by
  rw [fairB, Bool.and_eq_true, Bool.and_eq_true] at h
  refine ⟨may_pm h.1 h0, ?_⟩
  cases b with
  | nil => intro x hx; cases hx
  | cons y b =>
    cases a with
    | nil => simp at h0
    | cons x a =>
      have hh := h.2.2
      rw [headB, Bool.and_eq_true, ba_eq, decide_eq_true_eq, beq_iff_eq] at hh
      have := may_pm h.2.1 (by simp)
      intro z hz
      have := this z hz
      exact ⟨this.1.trans hh.1.symm, this.2.trans hh.2.symm⟩
theorem fair_symm {a b : List If} (h : fairB a b = true) : fairB b a = true := by
  rw [fairB, Bool.and_eq_true, Bool.and_eq_true] at h ⊢
  refine ⟨h.2.1, h.1, ?_⟩
  have hh := h.2.2
  cases a with
  | nil => cases b <;> rfl
  | cons x a =>
    cases b with
    | nil => rfl
    | cons y b =>
      rw [headB, Bool.and_eq_true, ba_eq, decide_eq_true_eq, beq_iff_eq] at hh ⊢
      exact ⟨hh.1.symm, hh.2.symm⟩
/-! no change at all -/
/-! the client that breaks -/
def nmM : ByteArray := { data := #[109] }
def useF (k : Brk) : Us := ⟨[⟨k.x.pkg, k.x.major, k.x.mod, nmM⟩], [⟨if k.c.ofType = true then 2 else 1, nmM, k.c.name, k.t⟩]⟩
theorem small_mU : smallB nmM = true := by decide +kernel
theorem small_c1 : smallB nmC = true := by decide +kernel
theorem checkC_imp {is : List Imp} (h1 : is.length ≤ 20) (h2 : is.all impOk = true) (h3 : ∀ i, i < is.length → twiceI is i = false) : checkF ⟨nmC, is, []⟩ = none := by
  rw [check_none, mayM_iff]
  refine ⟨⟨small_c1, h1, by simp, List.all_eq_true.1 h2, fun d hd => by cases hd⟩, ?_⟩
  rw [amiss_none]
  exact ⟨h3, fun i hi => by simp at hi, (fun d hd => by cases hd), (fun d hd => by cases hd), fun d hd => by cases hd⟩
theorem named_name {p : ByteArray → Bool} {l : List Nm} (h : namedB p l = true) {x : Nm} (hx : x ∈ l) : p x.name = true := by
  obtain ⟨i, hi, rfl⟩ := List.getElem_of_mem hx
  rw [namedB, List.all_eq_true] at h
  have := h i (List.mem_range.2 hi)
  rw [nmOk, dif_pos hi] at this
  simp only [Bool.and_eq_true] at this
  exact this.1
theorem exact_law {a b : List If} {k : Brk} (h : fairB a b = true) (hk : brkF a b = some k) : UsesOk (useF k) a ∧ ¬ UsesOk (useF k) b := by
  have hfair := h
  rw [fairB, Bool.and_eq_true, Bool.and_eq_true] at h
  rw [brkF, Option.map_eq_some_iff] at hk
  obtain ⟨c, hc, rfl⟩ := hk
  obtain ⟨hcase, x, n, hx, hn, hl⟩ := big_had hc
  have hxa := List.mem_of_find?_eq_some hx
  have hxm : x.mod = c.mod := by have := List.find?_some hx; rw [ba_eq] at this; simpa using this
  have hnn : n.name = c.name := by have := List.find?_some hn; rw [ba_eq] at this; simpa using this
  have hpn := look_plain h.1 hl
  have himay := may_iface h.1 hxa
  rw [imayB] at himay
  simp only [Bool.and_eq_true, decide_eq_true_eq] at himay
  obtain ⟨i1, i2, i3, i4, i5, i6⟩ := himay
  have h0 : 0 < a.length := List.length_pos_of_mem hxa
  obtain ⟨pma, pmb⟩ := fair_pm hfair h0
  have hxp := pma x hxa
  rw [hx, hl]
  simp only [Option.getD_some]
  have hu : useF ⟨x, c, n.ty⟩ = ⟨[⟨x.pkg, x.major, x.mod, nmM⟩], [⟨if c.ofType = true then 2 else 1, nmM, c.name, n.ty⟩]⟩ := rfl
  rw [hu]
  have himp : [(⟨x.pkg, x.major, x.mod, nmM⟩ : Imp)].all impOk = true := by simp [impOk, i1, i2, i3, i4, small_mU]
  have hfindI : [(⟨x.pkg, x.major, x.mod, nmM⟩ : Imp)].find? (isImp nmM) = some ⟨x.pkg, x.major, x.mod, nmM⟩ := by
    have : isImp nmM ⟨x.pkg, x.major, x.mod, nmM⟩ = true := ba_yes rfl
    simp [this]
  have htw : ∀ i, i < [(⟨x.pkg, x.major, x.mod, nmM⟩ : Imp)].length → twiceI [(⟨x.pkg, x.major, x.mod, nmM⟩ : Imp)] i = false := by
    intro i hi
    have : i = 0 := by simpa using hi
    subst this
    rfl
  constructor
  · have hname : (if c.ofType = true then greatB c.name else smallB c.name) = true := by
      have hm := List.mem_of_find?_eq_some hn
      rw [selF] at hm
      cases ho : c.ofType
      · rw [ho] at hm; rw [← hnn]; exact named_name i6 hm
      · rw [ho] at hm; rw [← hnn]; exact named_name i5 hm
    refine ⟨?_, by have := may_len h.1; omega, htw, ?_⟩
    · rw [mayU, himp]
      have : [(⟨if c.ofType = true then 2 else 1, nmM, c.name, n.ty⟩ : Ln)].all lnOk = true := by
        have hm := (plain_of hpn).1
        cases ho : c.ofType <;> rw [ho] at hname <;> simp at hname <;> simp [lnOk, hname, hm, small_mU]
      rw [this]; rfl
    · intro l hlm
      rw [List.mem_singleton] at hlm
      subst hlm
      have hck : checkF ⟨nmC, [(⟨x.pkg, x.major, x.mod, nmM⟩ : Imp)], []⟩ = none := checkC_imp (by simp) himp htw
      have hargs : argB (envU ⟨[⟨x.pkg, x.major, x.mod, nmM⟩], [⟨if c.ofType = true then 2 else 1, nmM, c.name, n.ty⟩]⟩ a) n.ty = true := by
        have hla := may_len h.1
        have hm := (plain_of hpn).1
        rw [argB]
        show ((checkF ⟨nmC, [(⟨x.pkg, x.major, x.mod, nmM⟩ : Imp)], []⟩).isNone && (mayT n.ty && (smallB nmC && (decide ((1 : Int) ≤ 1) && (decide ((1 : Int) ≤ 999999999) && decide (a.length ≤ 100)))))) = true
        rw [hck, hm, small_c1, decide_eq_true (show a.length ≤ 100 by omega)]
        rfl
      have hexp : ExpIs (envU ⟨[⟨x.pkg, x.major, x.mod, nmM⟩], [⟨if c.ofType = true then 2 else 1, nmM, c.name, n.ty⟩]⟩ a) n.ty 0 n.ty := by
        obtain ⟨hk1, hk2⟩ := compl_plain (E := envU ⟨[⟨x.pkg, x.major, x.mod, nmM⟩], [⟨if c.ofType = true then 2 else 1, nmM, c.name, n.ty⟩]⟩ a) (plain_of hpn).2
        exact .inr (.inr (.inr ⟨hargs, hk1, hk2, n.ty, Exp.plain _ (plain_of hpn).2, .inl ⟨⟨(may_all (plain_of hpn).1).2.1, (may_all (plain_of hpn).1).2.2⟩, rfl, rfl⟩⟩))
      refine ⟨_, n.ty, x, n, hfindI, hexp, ?_, ?_, fun _ => subB_refl hpn, fun _ => (same_plain hpn hpn).2 rfl⟩
      · rw [find_pm pma (by exact hxp.1) (by exact hxp.2)]
        show firstIface a x.mod = some x
        rw [hxm]; exact hx
      · rw [hasF]
        rw [selF] at hn
        cases ho : c.ofType <;> rw [ho] at hn <;> simpa using hn
  · rintro ⟨-, -, -, hty⟩
    obtain ⟨i, t, f, n', h1, h2, h3, h4, h5, h6⟩ := hty _ (List.mem_singleton.2 rfl)
    have h1 : [(⟨x.pkg, x.major, x.mod, nmM⟩ : Imp)].find? (isImp nmM) = some i := h1
    rw [hfindI] at h1
    obtain rfl := Option.some.inj h1
    have ht : t = n.ty := by
      have h2 : ExpIs _ n.ty 0 t := h2
      rcases h2.self hpn with h | ⟨-, h⟩
      · cases h
      · exact h
    subst ht
    have hlb : look b c.mod c.ofType c.name = some n' := by
      rw [find_pm pmb (by exact hxp.1) (by exact hxp.2)] at h3
      have h3 : firstIface b x.mod = some f := h3
      rw [hxm] at h3
      rw [look, h3]
      rw [hasF] at h4
      cases ho : c.ofType <;> rw [ho] at h4 <;> simpa using h4
    have hpn' := look_plain h.2.1 hlb
    obtain ⟨-, hkk, -⟩ := chg_mem.1 (List.mem_of_find?_eq_some hc)
    rw [hl, hlb] at hkk
    have hkk : c.kind = turnF n.ty n'.ty c.ofType := hkk
    rcases hcase with h1 | h2'
    · rw [h1] at hkk
      have := turn_cases n.ty n'.ty c.ofType
      omega
    · rw [h2'] at hkk
      obtain ⟨hne, hor⟩ := (turn_two hpn hpn').1 hkk.symm
      cases ho : c.ofType
      · rw [ho] at hor h5
        have := h5 (by simp)
        rcases hor with h | h
        · cases h
        · rw [this] at h; cases h
      · rw [ho] at h6
        have := h6 (by simp)
        exact hne ((same_plain hpn' hpn).1 this).symm
end Go.Proofs.YtjeldfipipkfiaaGreatDoor
