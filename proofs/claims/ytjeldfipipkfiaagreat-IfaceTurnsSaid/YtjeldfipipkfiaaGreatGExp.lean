/- What expand.Expand tells, in plain words: what a type comes to (Exp), when it does, and its laws. Plain Lean; no condition. -/
import Derived.Test.YtjeldfipipkfiaaGreatGScope
namespace Go.Proofs.YtjeldfipipkfiaaGreat
open Go.RowKit
set_option linter.unusedSimpArgs false
set_option linter.unusedVariables false
def zT : Ty := .mk 0 { data := #[] } 0 { data := #[] } { data := #[] } [] []
def isIf (i : Imp) (x : If) : Bool := (x.pkg.toList == i.pkg.toList) && ((x.major == i.major) && (x.mod.toList == i.mod.toList))
def isNm (s : ByteArray) (n : Nm) : Bool := n.name.toList == s.toList
def isImp (s : ByteArray) (i : Imp) : Bool := i.asN.toList == s.toList
def thereF (m : Mdl) (env : List If) (l : Ty) : Ty × Bool := match m.imps.find? (isImp l.mod) with
  | none => (zT, false)
  | some i => match env.find? (isIf i) with
    | none => (zT, false)
    | some f => match f.types.find? (isNm l.name) with
      | none => (zT, false)
      | some n => (n.ty, PlainB n.ty)
structure Env where
  m : Mdl
  pkg : ByteArray
  major : Int
  env : List If
def openT (E : Env) (s : ByteArray) : Ty := .mk 9 E.pkg E.major E.m.name s [] []
inductive Exp (E : Env) : Ty → Ty → Prop
  | alias {t x : Ty} {d : Dcl} (h8 : t.kind = 8) (hm : t.mod.toList.isEmpty = true) (hd : declOf E.m.decls t.name = some d) (h3 : d.kind = 3) (h : Exp E d.ty x) : Exp E t x
  | opn {t : Ty} {d : Dcl} (h8 : t.kind = 8) (hm : t.mod.toList.isEmpty = true) (hd : declOf E.m.decls t.name = some d) (h3 : d.kind ≠ 3) : Exp E t (openT E t.name)
  | there {t x : Ty} (h8 : t.kind = 8) (hm : t.mod.toList.isEmpty = false) (hp : (thereF E.m E.env t).2 = true) (h : Exp E (thereF E.m E.env t).1 x) : Exp E t x
  | node {t : Ty} {xs : List Ty} (h8 : t.kind ≠ 8) (hl : xs.length = t.subs.length) (h : ∀ i (h1 : i < t.subs.length) (h2 : i < xs.length), Exp E t.subs[i] xs[i]) : Exp E t (.mk t.kind t.pkg t.major t.mod t.name t.names xs)
theorem Exp.uniq {E : Env} {t x : Ty} (h : Exp E t x) : ∀ {y : Ty}, Exp E t y → x = y := by
  induction h with
  | alias h8 hm hd h3 _ ih =>
    intro y hy
    cases hy with
    | alias _ _ hd' _ h' => rw [hd] at hd'; obtain rfl := Option.some.inj hd'; exact ih h'
    | opn _ _ hd' h3' => rw [hd] at hd'; obtain rfl := Option.some.inj hd'; exact absurd h3 h3'
    | there _ hm' => rw [hm] at hm'; cases hm'
    | node h8' => exact absurd h8 h8'
  | opn h8 hm hd h3 =>
    intro y hy
    cases hy with
    | alias _ _ hd' h3' h' => rw [hd] at hd'; obtain rfl := Option.some.inj hd'; exact absurd h3' h3
    | opn => rfl
    | there _ hm' => rw [hm] at hm'; cases hm'
    | node h8' => exact absurd h8 h8'
  | there h8 hm hp _ ih =>
    intro y hy
    cases hy with
    | alias _ hm' => rw [hm] at hm'; cases hm'
    | opn _ hm' => rw [hm] at hm'; cases hm'
    | there _ _ _ h' => exact ih h'
    | node h8' => exact absurd h8 h8'
  | @node t xs h8 hl _ ih =>
    intro y hy
    cases hy with
    | alias h8' => exact absurd h8' h8
    | opn h8' => exact absurd h8' h8
    | there h8' => exact absurd h8' h8
    | @node _ ys _ hl' h' =>
      congr 1
      refine List.ext_getElem (by omega) fun i h1 h2 => ?_
      exact ih i (by omega) h1 (h' i (by omega) h2)
theorem plainL_mem : ∀ {l : List Ty} {s : Ty}, plainL l = true → s ∈ l → plainT s = true
  | x :: l, s, h, hs => by
    rw [plainL, Bool.and_eq_true] at h
    rcases List.mem_cons.1 hs with rfl | hs
    · exact h.1
    · exact plainL_mem h.2 hs
theorem plainL_of : ∀ {l : List Ty}, (∀ s ∈ l, plainT s = true) → plainL l = true
  | [], _ => by rw [plainL]
  | x :: l, h => by rw [plainL, h x (by simp), plainL_of fun s hs => h s (by simp [hs])]; rfl
theorem allX_mem : ∀ {l : List Ty} {s : Ty}, allL l = true → s ∈ l → allT s = true
  | x :: l, s, h, hs => by
    rw [allL, Bool.and_eq_true] at h
    rcases List.mem_cons.1 hs with rfl | hs
    · exact h.1
    · exact allX_mem h.2 hs
theorem allL_of : ∀ {l : List Ty}, (∀ s ∈ l, allT s = true) → allL l = true
  | [], _ => by rw [allL]
  | x :: l, h => by rw [allL, h x (by simp), allL_of fun s hs => h s (by simp [hs])]; rfl
theorem localsL_mem : ∀ {l : List Ty} {s : Ty}, s ∈ l → ∀ x ∈ localsT s, x ∈ localsL l
  | y :: l, s, hs, x, hx => by
    rw [localsL, List.mem_append]
    rcases List.mem_cons.1 hs with rfl | hs
    · exact .inl hx
    · exact .inr (localsL_mem hs x hx)
theorem Exp.plain {E : Env} (t : Ty) : plainT t = true → Exp E t t := by
  induction t using Ty.ind with
  | h t ih =>
    intro h
    rw [plainT_eq, Bool.and_eq_true] at h
    have h8 : t.kind ≠ 8 := by simpa using h.1
    have := Exp.node (E := E) (t := t) (xs := t.subs) h8 rfl fun i h1 h2 => ih _ (List.getElem_mem h1) (plainL_mem h.2 (List.getElem_mem h1))
    rwa [← Ty.eta t] at this
theorem plain_nolocals (t : Ty) : plainT t = true → localsT t = [] := by
  induction t using Ty.ind with
  | h t ih =>
    intro h
    rw [plainT_eq, Bool.and_eq_true] at h
    have h8 : t.kind ≠ 8 := by simpa using h.1
    rw [localsT_eq, if_neg h8, List.nil_append]
    have key : ∀ l : List Ty, (∀ s ∈ l, s ∈ t.subs) → localsL l = [] := by
      intro l
      induction l with
      | nil => intro _; rw [localsL]
      | cons s l ihl =>
        intro hm
        rw [localsL, ih s (hm s (by simp)) (plainL_mem h.2 (hm s (by simp))), ihl fun x hx => hm x (by simp [hx])]
        rfl
    exact key t.subs fun _ h => h
def hadB (E : Env) (l : Ty) : Bool := l.mod.toList.isEmpty || (thereF E.m E.env l).2
def complB (E : Env) (t : Ty) : Bool := (localsT t).all (hadB E) && (mentF E.m.decls t).all fun s => (nextD E.m.decls s).all (hadB E)
structure GoodX (E : Env) (t : Ty) : Prop where
  known : ∀ l ∈ localsT t, knownL E.m l = true
  had : ∀ l ∈ localsT t, hadB E l = true
  next : ∀ s, Rch E.m.decls t s → ∀ l ∈ nextD E.m.decls s, knownL E.m l = true ∧ hadB E l = true
theorem rch_sub {ds : List Dcl} {t u : Ty} (h : ∀ x ∈ names0 ds (localsT u), Rch ds t x) {s : ByteArray} (hr : Rch ds u s) : Rch ds t s := by
  induction hr with
  | base h1 => exact h _ h1
  | step _ h2 ih => exact .step ih h2
theorem names0_mono {ds : List Dcl} {l m : List Ty} (h : ∀ x ∈ l, x ∈ m) : ∀ x ∈ names0 ds l, x ∈ names0 ds m := by
  intro x hx
  rw [names0, List.mem_map] at hx ⊢
  obtain ⟨y, hy, e⟩ := hx
  rw [List.mem_filter] at hy
  exact ⟨y, List.mem_filter.2 ⟨h y hy.1, hy.2⟩, e⟩
theorem rch_child {ds : List Dcl} {t c : Ty} (hc : c ∈ t.subs) {s : ByteArray} (hr : Rch ds c s) : Rch ds t s :=
  rch_sub (fun x hx => .base (names0_mono (fun y hy => by rw [localsT_eq, List.mem_append]; exact .inr (localsL_mem hc y hy)) x hx)) hr
theorem GoodX.child {E : Env} {t c : Ty} (h : GoodX E t) (hc : c ∈ t.subs) : GoodX E c := by
  have hm : ∀ l ∈ localsT c, l ∈ localsT t := fun l hl => by rw [localsT_eq, List.mem_append]; exact .inr (localsL_mem hc l hl)
  exact ⟨fun l hl => h.known l (hm l hl), fun l hl => h.had l (hm l hl), fun s hs => h.next s (rch_child hc hs)⟩
theorem local_mem {t : Ty} (h8 : t.kind = 8) : t ∈ localsT t := by rw [localsT_eq, if_pos h8]; simp
theorem local_rch {ds : List Dcl} {t : Ty} (h8 : t.kind = 8) (hm : t.mod.toList.isEmpty = true) (hk : hasD ds t.name = true) : Rch ds t t.name :=
  .base (by rw [names0, List.mem_map]; exact ⟨t, List.mem_filter.2 ⟨local_mem h8, by rw [okL, hm, hk]; rfl⟩, rfl⟩)
theorem alias_rch {ds : List Dcl} {t : Ty} {d : Dcl} (hr : Rch ds t t.name) (hd : declOf ds t.name = some d) (h3 : d.kind = 3) {s : ByteArray} (hs : Rch ds d.ty s) : Rch ds t s :=
  rch_sub (fun x hx => .step hr (by rw [nextD_of, hd]; show x ∈ names0 ds (if d.kind = 3 then localsT d.ty else []); rw [if_pos h3]; exact hx)) hs
def rankT (ds : List Dcl) (t : Ty) : Nat := (mentF ds t).length
theorem rank_le {ds : List Dcl} {t u : Ty} (h : ∀ s, Rch ds u s → Rch ds t s) : rankT ds u ≤ rankT ds t :=
  nodup_len (mentF_law ds u).1 fun x hx => ((mentF_law ds t).2 x).2 (h x (((mentF_law ds u).2 x).1 hx))
theorem rank_lt {ds : List Dcl} {t u : Ty} (h : ∀ s, Rch ds u s → Rch ds t s) {n : ByteArray} (h1 : Rch ds t n) (h2 : ¬ Rch ds u n) : rankT ds u < rankT ds t := by
  have hn : (n :: mentF ds u).Nodup := List.nodup_cons.2 ⟨fun hm => h2 (((mentF_law ds u).2 n).1 hm), (mentF_law ds u).1⟩
  have := nodup_len (m := mentF ds t) hn fun x hx => by
    rcases List.mem_cons.1 hx with rfl | hx
    · exact ((mentF_law ds t).2 _).2 h1
    · exact ((mentF_law ds t).2 x).2 (h x (((mentF_law ds u).2 x).1 hx))
  have h2 : (mentF ds u).length + 1 ≤ (mentF ds t).length := by simpa using this
  exact h2
theorem declOf_mem {ds : List Dcl} {s : ByteArray} {d : Dcl} (h : declOf ds s = some d) : d ∈ ds ∧ d.name = s ∧ d.kind ≠ 4 := by
  have h1 := List.mem_of_find?_eq_some h
  have h2 := List.find?_some h
  rw [isT, Bool.and_eq_true, ba_eq, decide_eq_true_eq] at h2
  exact ⟨h1, h2.2, by simpa using h2.1⟩
theorem plain_there {m : Mdl} {env : List If} {l : Ty} (h : (thereF m env l).2 = true) : PlainB (thereF m env l).1 = true := by
  rw [thereF] at h ⊢
  split
  · rename_i e; rw [e] at h; cases h
  · rename_i i e
    rw [e] at h
    split
    · rename_i e2; simp only [e2] at h; cases h
    · rename_i f e2
      simp only [e2] at h
      split
      · rename_i e3; simp only [e3] at h; cases h
      · rename_i n e3; simp only [e3] at h; exact h
theorem plain_of {t : Ty} (h : PlainB t = true) : mayT t = true ∧ plainT t = true := by rwa [PlainB, Bool.and_eq_true] at h
theorem Exp.total {E : Env} (hw : WellM E.m) (hd : ∀ d ∈ E.m.decls, dclOk d = true) : ∀ (n : Nat) (t : Ty), rankT E.m.decls t ≤ n → GoodX E t → ∃ x, Exp E t x := by
  intro n
  induction n with
  | zero =>
    intro t
    induction t using Ty.ind with
    | h t ih =>
      intro hr hg
      by_cases h8 : t.kind = 8
      · cases hm : t.mod.toList.isEmpty
        · have hh := hg.had t (local_mem h8)
          rw [hadB, hm, Bool.false_or] at hh
          exact ⟨_, .there h8 hm hh (Exp.plain _ (plain_of (plain_there hh)).2)⟩
        · exfalso
          have hk := hg.known t (local_mem h8)
          rw [knownL, if_pos hm] at hk
          have := ((mentF_law E.m.decls t).2 _).2 (local_rch h8 hm hk)
          rw [rankT, Nat.le_zero, List.length_eq_zero_iff] at hr
          rw [hr] at this
          cases this
      · have hc : ∀ c ∈ t.subs, ∃ x, Exp E c x := fun c hc => ih c hc (Nat.le_trans (rank_le fun s => rch_child hc) hr) (hg.child hc)
        have : ∃ xs : List Ty, xs.length = t.subs.length ∧ ∀ i (h1 : i < t.subs.length) (h2 : i < xs.length), Exp E t.subs[i] xs[i] := by
          refine ⟨t.subs.attach.map fun c => Classical.choose (hc c.1 c.2), by simp, fun i h1 h2 => ?_⟩
          rw [List.getElem_map]
          have := Classical.choose_spec (hc t.subs[i] (List.getElem_mem h1))
          simpa using this
        obtain ⟨xs, hl, hx⟩ := this
        exact ⟨_, .node h8 hl hx⟩
  | succ n ihn =>
    intro t
    induction t using Ty.ind with
    | h t ih =>
      intro hr hg
      by_cases h8 : t.kind = 8
      · cases hm : t.mod.toList.isEmpty
        · have hh := hg.had t (local_mem h8)
          rw [hadB, hm, Bool.false_or] at hh
          exact ⟨_, .there h8 hm hh (Exp.plain _ (plain_of (plain_there hh)).2)⟩
        · have hk := hg.known t (local_mem h8)
          rw [knownL, if_pos hm] at hk
          have hrch := local_rch h8 hm hk
          have hk2 := hk
          rw [hasD_of, Option.isSome_iff_exists] at hk2
          obtain ⟨d, hdd⟩ := hk2
          by_cases h3 : d.kind = 3
          · obtain ⟨hmem, hname, -⟩ := declOf_mem hdd
            have hnc := hw.circle d hmem
            have hnr : ¬ Rch E.m.decls d.ty t.name := fun h => by
              rw [circleB, h3] at hnc
              have := memN_iff.2 (((mentF_law E.m.decls d.ty).2 _).2 h)
              rw [hname, this] at hnc
              cases hnc
            have hsub : ∀ s, Rch E.m.decls d.ty s → Rch E.m.decls t s := fun s => alias_rch hrch hdd h3
            have hlt := rank_lt hsub hrch hnr
            have hnx : ∀ l ∈ localsT d.ty, l ∈ nextD E.m.decls t.name := fun l hl => by rw [nextD_of, hdd]; show l ∈ (if d.kind = 3 then localsT d.ty else []); rw [if_pos h3]; exact hl
            obtain ⟨x, hx⟩ := ihn d.ty (by omega) ⟨fun l hl => (hg.next _ hrch l (hnx l hl)).1, fun l hl => (hg.next _ hrch l (hnx l hl)).2, fun s hs => hg.next s (hsub s hs)⟩
            exact ⟨x, .alias h8 hm hdd h3 hx⟩
          · exact ⟨_, .opn h8 hm hdd h3⟩
      · have hc : ∀ c ∈ t.subs, ∃ x, Exp E c x := fun c hc => ih c hc (Nat.le_trans (rank_le fun s => rch_child hc) hr) (hg.child hc)
        have : ∃ xs : List Ty, xs.length = t.subs.length ∧ ∀ i (h1 : i < t.subs.length) (h2 : i < xs.length), Exp E t.subs[i] xs[i] := by
          refine ⟨t.subs.attach.map fun c => Classical.choose (hc c.1 c.2), by simp, fun i h1 h2 => ?_⟩
          rw [List.getElem_map]
          have := Classical.choose_spec (hc t.subs[i] (List.getElem_mem h1))
          simpa using this
        obtain ⟨xs, hl, hx⟩ := this
        exact ⟨_, .node h8 hl hx⟩
def argB (E : Env) (t : Ty) : Bool := (checkF E.m).isNone && (mayT t && (smallB E.pkg && (decide (1 ≤ E.major) && (decide (E.major ≤ 999999999) && decide (E.env.length ≤ 100)))))
def knownB (E : Env) (t : Ty) : Bool := (localsT t).all (knownL E.m)
def fitsX (x : Ty) : Prop := manyT x ≤ 500 ∧ deepT x ≤ 32
def ExpIs (E : Env) (t : Ty) (c : Int) (y : Ty) : Prop :=
  (argB E t = false ∧ c = 1 ∧ y = zT) ∨ (argB E t = true ∧ knownB E t = false ∧ c = 4 ∧ y = zT) ∨ (argB E t = true ∧ knownB E t = true ∧ complB E t = false ∧ c = 9 ∧ y = zT) ∨
    (argB E t = true ∧ knownB E t = true ∧ complB E t = true ∧ ∃ x, Exp E t x ∧ ((fitsX x ∧ c = 0 ∧ y = x) ∨ (¬ fitsX x ∧ c = 3 ∧ y = zT)))
theorem ExpIs.uniq {E : Env} {t : Ty} {c c' : Int} {y y' : Ty} (h : ExpIs E t c y) (h' : ExpIs E t c' y') : c = c' ∧ y = y' := by
  rcases h with ⟨a1, rfl, rfl⟩ | ⟨a1, a2, rfl, rfl⟩ | ⟨a1, a2, a3, rfl, rfl⟩ | ⟨a1, a2, a3, x, hx, h⟩ <;> rcases h' with ⟨b1, rfl, rfl⟩ | ⟨b1, b2, rfl, rfl⟩ | ⟨b1, b2, b3, rfl, rfl⟩ | ⟨b1, b2, b3, x', hx', h'⟩
  all_goals first
    | exact ⟨rfl, rfl⟩
    | (exfalso; simp_all; done)
    | skip
  obtain rfl := hx.uniq hx'
  rcases h with ⟨h1, rfl, rfl⟩ | ⟨h1, rfl, rfl⟩ <;> rcases h' with ⟨h2, rfl, rfl⟩ | ⟨h2, rfl, rfl⟩
  · exact ⟨rfl, rfl⟩
  · exact absurd h1 h2
  · exact absurd h2 h1
  · exact ⟨rfl, rfl⟩
theorem well_of {E : Env} {t : Ty} (h : argB E t = true) : checkF E.m = none ∧ WellM E.m ∧ mayM E.m = true ∧ mayT t = true ∧ smallB E.pkg = true ∧ 1 ≤ E.major ∧ E.major ≤ 999999999 ∧ E.env.length ≤ 100 := by
  simp only [argB, Bool.and_eq_true, decide_eq_true_eq] at h
  obtain ⟨h1, h2, h3, h4, h5, h6⟩ := h
  have hc : checkF E.m = none := by cases hx : checkF E.m; rfl; rw [hx] at h1; cases h1
  have := check_none.1 hc
  exact ⟨hc, amiss_none.1 this.2, this.1, h2, h3, h4, h5, h6⟩
theorem rch_known {E : Env} (hw : WellM E.m) {s : ByteArray} {l : Ty} (hl : l ∈ nextD E.m.decls s) : knownL E.m l = true := by
  rw [nextD_of] at hl
  cases hd : declOf E.m.decls s with
  | none => rw [hd] at hl; cases hl
  | some d =>
    rw [hd] at hl
    have hl : l ∈ (if d.kind = 3 then localsT d.ty else []) := hl
    by_cases h3 : d.kind = 3
    · rw [if_pos h3] at hl
      have := hw.known d (declOf_mem hd).1
      rw [unknownB] at this
      have := List.any_eq_false.1 this l hl
      simpa using this
    · rw [if_neg h3] at hl; cases hl
theorem good_of {E : Env} {t : Ty} (hw : WellM E.m) (hk : knownB E t = true) (hc : complB E t = true) : GoodX E t := by
  rw [complB, Bool.and_eq_true, List.all_eq_true, List.all_eq_true] at hc
  rw [knownB, List.all_eq_true] at hk
  refine ⟨hk, hc.1, fun s hs l hl => ⟨rch_known hw hl, ?_⟩⟩
  have := hc.2 s (((mentF_law E.m.decls t).2 s).2 hs)
  exact List.all_eq_true.1 this l hl
theorem exp_of {E : Env} {t : Ty} (ha : argB E t = true) (hk : knownB E t = true) (hc : complB E t = true) : ∃ x, Exp E t x := by
  obtain ⟨-, hw, hm, -⟩ := well_of ha
  exact Exp.total hw (mayM_iff.1 hm).2.2.2.2 _ t (Nat.le_refl _) (good_of hw hk hc)
end Go.Proofs.YtjeldfipipkfiaaGreat
namespace Go.Proofs.YtjeldfipipkfiaaGreat
open Go.RowKit
set_option linter.unusedSimpArgs false
set_option linter.unusedVariables false
theorem own_subs {t : Ty} {xs : List Ty} (hl : xs.length = t.subs.length) : ownB (.mk t.kind t.pkg t.major t.mod t.name t.names xs) = ownB t := by
  simp only [ownB, kindR, flatE, pK, Ty.kind, Ty.pkg, Ty.major, Ty.mod, Ty.name, Ty.names, Ty.subs, hl]
  cases t
  rfl
theorem dcl_alias {d : Dcl} (h : dclOk d = true) (h3 : d.kind = 3) : greatB d.name = true ∧ mayT d.ty = true := by
  rw [dclOk, if_neg (by omega), if_pos h3, Bool.and_eq_true] at h
  exact h
theorem may_all {t : Ty} (h : mayT t = true) : allT t = true ∧ manyT t ≤ 500 ∧ deepT t ≤ 32 := by
  rw [may_is, mayR, Bool.and_eq_true, Bool.and_eq_true, decide_eq_true_eq, decide_eq_true_eq] at h
  exact ⟨h.1.1, h.1.2, h.2⟩
theorem all_may {t : Ty} (h : allT t = true) (h1 : manyT t ≤ 500) (h2 : deepT t ≤ 32) : mayT t = true := by
  rw [may_is, mayR, h, decide_eq_true h1, decide_eq_true h2]; rfl
theorem shape_great {t : Ty} (h : shapeB t = true) (h8 : t.kind = 8) : greatB t.name = true := by
  rw [← own_shape, ownB, Bool.and_eq_true, Bool.and_eq_true] at h
  have := h.2
  rw [kindR, if_neg (by omega), if_neg (by omega), if_neg (by omega), if_neg (by omega), if_neg (by omega), if_pos h8] at this
  simp only [Bool.and_eq_true] at this
  exact this.1.2
theorem shape_open {E : Env} {s : ByteArray} (h1 : smallB E.pkg = true) (h2 : 1 ≤ E.major) (h3 : E.major ≤ 999999999) (h4 : smallB E.m.name = true) (h5 : greatB s = true) : shapeB (openT E s) = true := by
  rw [← own_shape]
  simp [ownB, kindR, openT, Ty.kind, Ty.pkg, Ty.major, Ty.mod, Ty.name, Ty.names, Ty.subs, h1, h2, h3, h4, h5, namesB, riseB]
theorem Exp.allp {E : Env} (hd : ∀ d ∈ E.m.decls, dclOk d = true) (h1 : smallB E.pkg = true) (h2 : 1 ≤ E.major) (h3 : E.major ≤ 999999999) (h4 : smallB E.m.name = true) {t x : Ty} (h : Exp E t x) : allT t = true → allT x = true ∧ plainT x = true := by
  induction h with
  | alias h8 hm hdd hk _ ih => exact fun _ => ih (may_all (dcl_alias (hd _ (declOf_mem hdd).1) hk).2).1
  | opn h8 hm hdd hk =>
    intro ht
    rw [allT_eq, Bool.and_eq_true] at ht
    rw [allT_eq, plainT_eq, shape_open h1 h2 h3 h4 (shape_great ht.1 h8)]
    exact ⟨rfl, rfl⟩
  | there h8 hm hp _ ih => exact fun _ => ih (may_all (plain_of (plain_there hp)).1).1
  | @node t xs h8 hl _ ih =>
    intro ht
    rw [allT_eq, Bool.and_eq_true] at ht
    rw [allT_eq, plainT_eq, ← own_shape, own_subs hl, own_shape, ht.1]
    have key : ∀ s ∈ xs, allT s = true ∧ plainT s = true := by
      intro s hs
      obtain ⟨i, hi, rfl⟩ := List.getElem_of_mem hs
      exact ih i (by omega) hi (allX_mem ht.2 (List.getElem_mem (by omega)))
    refine ⟨?_, ?_⟩
    · rw [Bool.true_and]; exact allL_of fun s hs => (key s hs).1
    · show ((t.kind != 8) && plainL xs) = true
      rw [plainL_of fun s hs => (key s hs).2]
      simpa using h8
theorem ExpIs.result {E : Env} {t : Ty} {y : Ty} (h : ExpIs E t 0 y) : argB E t = true ∧ knownB E t = true ∧ complB E t = true ∧ Exp E t y ∧ fitsX y := by
  rcases h with ⟨_, h, _⟩ | ⟨_, _, h, _⟩ | ⟨_, _, _, h, _⟩ | ⟨a1, a2, a3, x, hx, h⟩
  · cases h
  · cases h
  · cases h
  · rcases h with ⟨h1, -, rfl⟩ | ⟨_, h, _⟩
    · exact ⟨a1, a2, a3, hx, h1⟩
    · cases h
theorem ExpIs.plain {E : Env} {t y : Ty} (h : ExpIs E t 0 y) : PlainB y = true := by
  obtain ⟨ha, -, -, hx, hf⟩ := h.result
  obtain ⟨-, -, hm, ht, h1, h2, h3, -⟩ := well_of ha
  obtain ⟨m1, -, -, -, m5⟩ := mayM_iff.1 hm
  have := hx.allp m5 h1 h2 h3 m1 (may_all ht).1
  rw [PlainB, this.2, all_may this.1 hf.1 hf.2]; rfl
theorem compl_plain {E : Env} {t : Ty} (h : plainT t = true) : knownB E t = true ∧ complB E t = true := by
  have hl := plain_nolocals t h
  refine ⟨by rw [knownB, hl]; rfl, ?_⟩
  have hn : mentF E.m.decls t = [] := by
    rw [List.eq_nil_iff_forall_not_mem]
    exact fun x hx => no_reach hl (((mentF_law E.m.decls t).2 x).1 hx)
  rw [complB, hl, hn]; rfl
theorem ExpIs.self {E : Env} {t y : Ty} {c : Int} (hp : PlainB t = true) (h : ExpIs E t c y) : c = 1 ∨ (c = 0 ∧ y = t) := by
  obtain ⟨hm, hp⟩ := plain_of hp
  obtain ⟨hk, hc⟩ := compl_plain (E := E) hp
  rcases h with ⟨_, h, _⟩ | ⟨_, h, _⟩ | ⟨_, _, h, _⟩ | ⟨a1, a2, a3, x, hx, h⟩
  · exact .inl h
  · rw [hk] at h; cases h
  · rw [hc] at h; cases h
  · obtain rfl := hx.uniq (Exp.plain t hp)
    rcases h with ⟨h1, h2, h3⟩ | ⟨h1, -⟩
    · exact .inr ⟨h2, h3⟩
    · exact absurd ⟨(may_all hm).2.1, (may_all hm).2.2⟩ h1
theorem arg_swap {E : Env} {t u : Ty} (h : argB E t = true) (hu : mayT u = true) : argB E u = true := by
  simp only [argB, Bool.and_eq_true] at h ⊢
  exact ⟨h.1, hu, h.2.2⟩
theorem ExpIs.again {E : Env} {t x y : Ty} {c : Int} (h : ExpIs E t 0 x) (h2 : ExpIs E x c y) : c = 0 ∧ y = x := by
  have hp := h.plain
  rcases h2.self hp with rfl | h3
  · rcases h2 with ⟨ha, -⟩ | ⟨_, _, h, _⟩ | ⟨_, _, _, h, _⟩ | ⟨_, _, _, x, _, h⟩
    · rw [arg_swap h.result.1 (plain_of hp).1] at ha; cases ha
    · cases h
    · cases h
    · rcases h with ⟨_, h, _⟩ | ⟨_, h, _⟩ <;> cases h
  · exact h3
/-! lists -/
def listT (t : Ty) : Ty := .mk 4 { data := #[] } 0 { data := #[] } { data := #[] } [] [t]
theorem list_locals (t : Ty) : localsT (listT t) = localsT t := by
  rw [localsT_eq]
  show (if (4 : Int) = 8 then _ else []) ++ localsL [t] = _
  rw [if_neg (by decide), localsL, localsL]
  simp
theorem list_ment (ds : List Dcl) (t : Ty) : mentF ds (listT t) = mentF ds t := by rw [mentF, mentF, list_locals]
theorem list_may {t : Ty} (h : mayT (listT t) = true) : mayT t = true := by
  obtain ⟨h1, h2, h3⟩ := may_all h
  rw [allT_eq, Bool.and_eq_true] at h1
  have h1 : allL [t] = true := h1.2
  rw [manyT_eq] at h2
  have h2 : 1 + manyL [t] ≤ 500 := h2
  rw [deepT_eq] at h3
  have h3 : deepL [t] + 1 ≤ 32 := h3
  rw [allL, allL, Bool.and_true] at h1
  rw [manyL, manyL] at h2
  rw [deepL, deepL] at h3
  exact all_may h1 (by omega) (by omega)
theorem ExpIs.list {E : Env} {t y : Ty} (h : ExpIs E (listT t) 0 y) : ∃ x, ExpIs E t 0 x ∧ y = listT x := by
  obtain ⟨ha, hk, hc, hx, hf⟩ := h.result
  obtain ⟨-, -, -, ht, -⟩ := well_of ha
  have ha' := arg_swap ha (list_may ht)
  have hk' : knownB E t = true := by rw [knownB, list_locals] at hk; exact hk
  have hc' : complB E t = true := by rw [complB, list_locals, list_ment] at hc; exact hc
  cases hx with
  | alias h8 => exact absurd h8 (by show ¬ (4 : Int) = 8; decide)
  | opn h8 => exact absurd h8 (by show ¬ (4 : Int) = 8; decide)
  | there h8 => exact absurd h8 (by show ¬ (4 : Int) = 8; decide)
  | @node _ xs h8 hl hx =>
    have hl : xs.length = 1 := hl
    obtain ⟨x, rfl⟩ : ∃ x, xs = [x] := by
      match xs, hl with
      | [x], _ => exact ⟨x, rfl⟩
    have hx0 : Exp E t x := hx 0 (by show 0 < [t].length; simp) (by simp)
    refine ⟨x, .inr (.inr (.inr ⟨ha', hk', hc', x, hx0, .inl ⟨?_, rfl, rfl⟩⟩)), rfl⟩
    obtain ⟨f1, f2⟩ := hf
    rw [manyT_eq] at f1
    have f1 : 1 + manyL [x] ≤ 500 := f1
    rw [deepT_eq] at f2
    have f2 : deepL [x] + 1 ≤ 32 := f2
    rw [manyL, manyL] at f1
    rw [deepL, deepL] at f2
    exact ⟨by omega, by omega⟩
/-! aliases -/
def locT (s : ByteArray) : Ty := .mk 8 { data := #[] } 0 { data := #[] } s [] []
theorem loc_may {s : ByteArray} (h : greatB s = true) : mayT (locT s) = true := by
  refine all_may ?_ (by show manyT (locT s) ≤ 500; rw [manyT_eq]; show 1 + manyL [] ≤ 500; rw [manyL]; decide) (by rw [deepT_eq]; show deepL [] + 1 ≤ 32; rw [deepL]; decide)
  rw [allT_eq, ← own_shape]
  have e : (({ data := #[] } : ByteArray).toList.isEmpty) = true := by decide +kernel
  have : ownB (locT s) = true := by
    simp [ownB, kindR, locT, Ty.kind, Ty.pkg, Ty.major, Ty.mod, Ty.name, Ty.names, Ty.subs, h, namesB, riseB, e]
  rw [this]
  rfl
theorem declOf_at_own {ds : List Dcl} (ho : ∀ i, i < ds.length → twiceB ds i = false) {k : Nat} (hk : k < ds.length) (h4 : ds[k].kind ≠ 4) : declOf ds ds[k].name = some ds[k] := by
  have hp := List.pairwise_iff_getElem.1 (once_iff.1 ho)
  rw [declOf, List.find?_eq_some_iff_getElem]
  refine ⟨?_, k, hk, rfl, fun j hj => ?_⟩
  · rw [isT, ba_yes rfl]; simpa using h4
  · have := hp j k (by omega) hk hj
    rw [likeD] at this
    have hv : isVal ds[k] = false := by simpa [isVal] using h4
    rw [hv] at this
    rw [isT]
    cases hn : (ds[j].name.toList == ds[k].name.toList)
    · simp
    · rw [hn] at this
      have : isVal ds[j] = true := by cases h : isVal ds[j]; rw [h] at this; cases this; rfl
      rw [isVal] at this
      simp [bne, this]
theorem ExpIs.alias {E : Env} {k : Nat} (hk : k < E.m.decls.length) (h3 : E.m.decls[k].kind = 3) (hck : checkF E.m = none) {c c' : Int} {z w : Ty} (h : ExpIs E E.m.decls[k].ty c z) (h' : ExpIs E (locT E.m.decls[k].name) c' w) : c = c' ∧ z = w := by
  obtain ⟨hmay, hw⟩ := check_none.1 hck
  have hw := amiss_none.1 hw
  have hok := (mayM_iff.1 hmay).2.2.2.2 _ (List.getElem_mem hk)
  obtain ⟨hg, ht⟩ := dcl_alias hok h3
  have hd := declOf_at_own hw.once hk (by omega)
  have hmem := List.getElem_mem hk
  generalize E.m.decls[k] = d at *
  have hem : (({ data := #[] } : ByteArray).toList.isEmpty) = true := by decide +kernel
  have hloc : localsT (locT d.name) = [locT d.name] := by
    rw [localsT_eq, if_pos (show (locT d.name).kind = 8 from rfl)]; show _ ++ localsL [] = _; rw [localsL]; rfl
  have hhas : hasD E.m.decls d.name = true := by rw [hasD_of, hd]; rfl
  have hrch : Rch E.m.decls (locT d.name) d.name := local_rch (t := locT d.name) rfl hem hhas
  have hnx : nextD E.m.decls d.name = localsT d.ty := by rw [nextD_of, hd]; show (if d.kind = 3 then _ else _) = _; rw [if_pos h3]
  have hiff : ∀ s, Rch E.m.decls (locT d.name) s ↔ s = d.name ∨ Rch E.m.decls d.ty s := by
    intro s
    constructor
    · intro hr
      induction hr with
      | base h1 =>
        rw [hloc] at h1
        rw [names0, List.mem_map] at h1
        obtain ⟨y, hy, rfl⟩ := h1
        rw [List.mem_filter, List.mem_singleton] at hy
        rw [hy.1]; exact .inl rfl
      | step _ h2 ih =>
        rcases ih with rfl | ih
        · rw [hnx] at h2; exact .inr (.base h2)
        · exact .inr (.step ih h2)
    · rintro (rfl | hr)
      · exact hrch
      · exact alias_rch (t := locT d.name) hrch hd h3 hr
  have earg : argB E d.ty = argB E (locT d.name) := by simp only [argB, ht, loc_may hg]
  have ekn : knownB E d.ty = knownB E (locT d.name) := by
    have h1 : knownB E (locT d.name) = true := by
      rw [knownB, hloc, List.all_cons, knownL, if_pos (by exact hem)]
      show (hasD E.m.decls d.name && _) = true
      rw [hhas]; rfl
    have h2 := hw.known d hmem
    rw [h1, knownB, List.all_eq_true]
    intro l hl
    have := List.any_eq_false.1 h2 l hl
    simpa using this
  have eco : complB E d.ty = complB E (locT d.name) := by
    rw [Bool.eq_iff_iff, complB, complB, Bool.and_eq_true, Bool.and_eq_true, List.all_eq_true, List.all_eq_true, List.all_eq_true, List.all_eq_true, hloc]
    constructor
    · rintro ⟨h1, h2⟩
      refine ⟨fun x hx => by rw [List.mem_singleton] at hx; subst hx; rw [hadB]; show (({ data := #[] } : ByteArray).toList.isEmpty || _) = true; rw [hem]; rfl, fun s hs => ?_⟩
      rcases (hiff s).1 (((mentF_law _ _).2 s).1 hs) with rfl | hr
      · rw [hnx, List.all_eq_true]; exact h1
      · exact h2 s (((mentF_law _ _).2 s).2 hr)
    · rintro ⟨-, h2⟩
      refine ⟨?_, fun s hs => h2 s (((mentF_law _ _).2 s).2 ((hiff s).2 (.inr (((mentF_law _ _).2 s).1 hs))))⟩
      have := h2 d.name (((mentF_law _ _).2 _).2 hrch)
      rw [hnx, List.all_eq_true] at this
      exact this
  have : ExpIs E (locT d.name) c z := by
    rcases h with ⟨a1, e⟩ | ⟨a1, a2, e⟩ | ⟨a1, a2, a3, e⟩ | ⟨a1, a2, a3, x, hx, e⟩
    · exact .inl ⟨earg ▸ a1, e⟩
    · exact .inr (.inl ⟨earg ▸ a1, ekn ▸ a2, e⟩)
    · exact .inr (.inr (.inl ⟨earg ▸ a1, ekn ▸ a2, eco ▸ a3, e⟩))
    · exact .inr (.inr (.inr ⟨earg ▸ a1, ekn ▸ a2, eco ▸ a3, x, .alias (t := locT d.name) rfl hem hd h3 hx, e⟩))
  exact this.uniq h'
end Go.Proofs.YtjeldfipipkfiaaGreat
