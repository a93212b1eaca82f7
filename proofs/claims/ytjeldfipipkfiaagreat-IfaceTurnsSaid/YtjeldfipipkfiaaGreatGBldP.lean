/- What iface.Build tells, in plain words: rows of named types that rise; declarations in another order make the same interface; what is built may be. Plain Lean; no condition. -/
import Derived.Test.YtjeldfipipkfiaaGreatGExp
import Derived.Test.YtjeldfipipkfiaaGreatGSub
namespace Go.Proofs.YtjeldfipipkfiaaGreat
open Go.RowKit
set_option linter.unusedSimpArgs false
set_option linter.unusedVariables false
def isTyD (d : Dcl) : Bool := d.kind != 2 && d.kind != 4
def isVaD (d : Dcl) : Bool := d.kind == 4
def srcT (d : Dcl) : Ty := if d.kind = 1 then locT d.name else d.ty
def nmOf (X : Ty → Ty) (d : Dcl) : Nm := ⟨d.name, X (srcT d)⟩
def tysF (X : Ty → Ty) (ds : List Dcl) : List Nm := (ds.filter isTyD).map (nmOf X)
def vasF (X : Ty → Ty) (ds : List Dcl) : List Nm := (ds.filter isVaD).map (nmOf X)
def putNm : List Nm → Nm → List Nm
  | [], x => [x]
  | y :: l, x => if ltB y.name x.name = true then y :: putNm l x else x :: y :: l
def sortNm (l : List Nm) : List Nm := l.foldl putNm []
def RiseN (l : List Nm) : Prop := l.Pairwise fun a b => ltB a.name b.name = true
theorem ltB_oth {a b : ByteArray} (h : ¬ ltB a b = true) (hne : a ≠ b) : ltB b a = true := by
  have := less_total a.toList b.toList
  have hab : Op.bytesLess a.toList b.toList = false := by simpa [ltB] using h
  have hb : (b.toList == a.toList) = false := by rw [ba_eq]; simpa using Ne.symm hne
  rw [hab, hb] at this
  simpa [ltB] using this
theorem putNm_perm : ∀ (l : List Nm) (x : Nm), (putNm l x).Perm (x :: l)
  | [], x => .refl _
  | y :: l, x => by
    rw [putNm]
    split
    · exact ((putNm_perm l x).cons y).trans (.swap x y l)
    · exact .refl _
theorem foldNm_perm : ∀ (l a : List Nm), (l.foldl putNm a).Perm (a ++ l)
  | [], a => by simp
  | x :: l, a => by
    rw [List.foldl_cons]
    refine (foldNm_perm l (putNm a x)).trans ?_
    refine ((putNm_perm a x).append_right l).trans ?_
    exact (List.perm_middle).symm
theorem sortNm_perm (l : List Nm) : (sortNm l).Perm l := by simpa [sortNm] using foldNm_perm l []
theorem putNm_rise : ∀ {l : List Nm} {x : Nm}, RiseN l → x.name ∉ l.map Nm.name → RiseN (putNm l x)
  | [], x, _, _ => by simp [putNm, RiseN]
  | y :: l, x, h, hx => by
    rw [RiseN, List.pairwise_cons] at h
    rw [List.map_cons, List.mem_cons, not_or] at hx
    rw [putNm]
    split
    · rename_i hlt
      rw [RiseN, List.pairwise_cons]
      refine ⟨fun z hz => ?_, putNm_rise h.2 hx.2⟩
      rcases List.mem_cons.1 ((putNm_perm l x).mem_iff.1 hz) with rfl | hz
      · exact hlt
      · exact h.1 z hz
    · rename_i hlt
      have hxy := ltB_oth hlt (Ne.symm hx.1)
      rw [RiseN, List.pairwise_cons, List.pairwise_cons]
      refine ⟨fun z hz => ?_, h⟩
      rcases List.mem_cons.1 hz with rfl | hz
      · exact hxy
      · exact ltB_trans hxy (h.1 z hz)
theorem foldNm_rise : ∀ {l a : List Nm}, RiseN a → ((a ++ l).map Nm.name).Nodup → RiseN (l.foldl putNm a)
  | [], _, h, _ => h
  | x :: l, a, h, hn => by
    rw [List.foldl_cons]
    have hn' : ((x :: a ++ l).map Nm.name).Nodup := ((List.perm_middle (l₁ := a) (l₂ := l) (a := x)).map Nm.name).nodup_iff.1 hn
    refine foldNm_rise (putNm_rise h ?_) ?_
    · rw [List.cons_append, List.map_cons, List.nodup_cons, List.map_append, List.mem_append, not_or] at hn'
      exact hn'.1.1
    · exact (((putNm_perm a x).append_right l).map Nm.name).nodup_iff.2 hn'
theorem sortNm_rise {l : List Nm} (h : (l.map Nm.name).Nodup) : RiseN (sortNm l) := foldNm_rise .nil (by simpa using h)
theorem rise_uniq : ∀ {l m : List Nm}, RiseN l → RiseN m → l.Perm m → l = m
  | [], m, _, _, h => (List.nil_perm.1 h).symm
  | x :: l, [], _, _, h => by have := h.length_eq; simp at this
  | x :: l, y :: m, hl, hm, h => by
    rw [RiseN, List.pairwise_cons] at hl hm
    have hxy : x = y := by
      rcases List.mem_cons.1 (h.mem_iff.1 (List.mem_cons_self ..)) with hx | hx
      · exact hx
      · rcases List.mem_cons.1 (h.mem_iff.2 (List.mem_cons_self ..)) with hy | hy
        · exact hy.symm
        · have h1 := hm.1 x hx
          have h2 := hl.1 y hy
          have := ltB_trans h1 h2
          rw [ltB_irrefl] at this
          cases this
    subst hxy
    rw [rise_uniq hl.2 hm.2 ((List.perm_cons x).1 h)]
theorem sortNm_uniq {l m : List Nm} (hn : (l.map Nm.name).Nodup) (hm : RiseN m) (hp : m.Perm l) : m = sortNm l :=
  rise_uniq hm (sortNm_rise hn) (hp.trans (sortNm_perm l).symm)
theorem sortNm_congr {l m : List Nm} (hn : (l.map Nm.name).Nodup) (hp : l.Perm m) : sortNm l = sortNm m :=
  sortNm_uniq ((hp.map Nm.name).nodup_iff.1 hn) (sortNm_rise hn) ((sortNm_perm l).trans hp)
theorem tys_nodup {ds : List Dcl} (X : Ty → Ty) (ho : ∀ i, i < ds.length → twiceB ds i = false) : ((tysF X ds).map Nm.name).Nodup := by
  have hp := once_iff.1 ho
  rw [tysF, List.map_map, List.nodup_iff_pairwise_ne, List.pairwise_map, List.pairwise_filter]
  refine hp.imp ?_
  intro a b h ha hb e
  have e : a.name = b.name := e
  simp only [isTyD, Bool.and_eq_true, bne_iff_ne, ne_eq] at ha hb
  have va : (a.kind == 4) = false := by simpa using ha.2
  have vb : (b.kind == 4) = false := by simpa using hb.2
  rw [likeD, isVal, isVal, va, vb, ba_yes e] at h
  cases h
theorem vas_nodup {ds : List Dcl} (X : Ty → Ty) (ho : ∀ i, i < ds.length → twiceB ds i = false) : ((vasF X ds).map Nm.name).Nodup := by
  have hp := once_iff.1 ho
  rw [vasF, List.map_map, List.nodup_iff_pairwise_ne, List.pairwise_map, List.pairwise_filter]
  refine hp.imp ?_
  intro a b h ha hb e
  have e : a.name = b.name := e
  simp only [isVaD, beq_iff_eq] at ha hb
  have va : (a.kind == 4) = true := by simpa using ha
  have vb : (b.kind == 4) = true := by simpa using hb
  rw [likeD, isVal, isVal, va, vb, ba_yes e] at h
  cases h
def badX (C : Ty → Int) (ds : List Dcl) (i : Nat) : Bool := match ds[i]? with
  | some d => d.kind != 2 && C (srcT d) != 0
  | none => false
def firstX (C : Ty → Int) (ds : List Dcl) : Option Nat := (List.range ds.length).find? (badX C ds)
def codeAt (C : Ty → Int) (ds : List Dcl) (i : Nat) : Int := match ds[i]? with
  | some d => C (srcT d)
  | none => 0
def okE (E : Env) : Bool := smallB E.pkg && (decide (1 ≤ E.major) && (decide (E.major ≤ 999999999) && decide (E.env.length ≤ 100)))
def bldF (E : Env) (C : Ty → Int) (X : Ty → Ty) : Int × Option Nat × If := match checkF E.m with
  | some p => (p.1, p.2, ⟨{ data := #[] }, 0, { data := #[] }, [], []⟩)
  | none => if okE E = true then match firstX C E.m.decls with
      | some i => (codeAt C E.m.decls i, some i, ⟨{ data := #[] }, 0, { data := #[] }, [], []⟩)
      | none => (0, none, ⟨E.pkg, E.major, E.m.name, sortNm (tysF X E.m.decls), sortNm (vasF X E.m.decls)⟩)
    else (1, none, ⟨{ data := #[] }, 0, { data := #[] }, [], []⟩)
def Tells (E : Env) (C : Ty → Int) (X : Ty → Ty) : Prop := ∀ t, ExpIs E t (C t) (X t)
theorem tells_all (E : Env) : ∃ C X, Tells E C X := by
  have h : ∀ t, ∃ p : Int × Ty, ExpIs E t p.1 p.2 := by
    intro t
    cases ha : argB E t
    · exact ⟨(1, zT), .inl ⟨ha, rfl, rfl⟩⟩
    · cases hk : knownB E t
      · exact ⟨(4, zT), .inr (.inl ⟨ha, hk, rfl, rfl⟩)⟩
      · cases hc : complB E t
        · exact ⟨(9, zT), .inr (.inr (.inl ⟨ha, hk, hc, rfl, rfl⟩))⟩
        · obtain ⟨x, hx⟩ := exp_of ha hk hc
          by_cases hf : fitsX x
          · exact ⟨(0, x), .inr (.inr (.inr ⟨ha, hk, hc, x, hx, .inl ⟨hf, rfl, rfl⟩⟩))⟩
          · exact ⟨(3, zT), .inr (.inr (.inr ⟨ha, hk, hc, x, hx, .inr ⟨hf, rfl, rfl⟩⟩))⟩
  obtain ⟨f, hf⟩ := Classical.axiomOfChoice h
  exact ⟨fun t => (f t).1, fun t => (f t).2, hf⟩
theorem firstX_none {C : Ty → Int} {ds : List Dcl} : firstX C ds = none ↔ ∀ d ∈ ds, d.kind ≠ 2 → C (srcT d) = 0 := by
  rw [firstX, List.find?_eq_none]
  constructor
  · intro h d hd h2
    obtain ⟨i, hi, rfl⟩ := List.getElem_of_mem hd
    have := h i (List.mem_range.2 hi)
    rw [badX, List.getElem?_eq_getElem hi] at this
    simpa [h2] using this
  · intro h i hi
    have hi := List.mem_range.1 hi
    rw [badX, List.getElem?_eq_getElem hi]
    have := h _ (List.getElem_mem hi)
    by_cases h2 : ds[i].kind = 2
    · simp [h2]
    · simp [this h2]
/-! declarations in another order -/
theorem there_congr {m m' : Mdl} {env : List If} (hi : m.imps = m'.imps) (l : Ty) : thereF m env l = thereF m' env l := by rw [thereF, thereF, hi]
theorem Exp.turn {E E' : Env} (hf : FindsAlike E.m.decls E'.m.decls) (hi : E.m.imps = E'.m.imps) (hn : E.m.name = E'.m.name) (hp : E.pkg = E'.pkg) (hj : E.major = E'.major) (hv : E.env = E'.env) {t x : Ty} (h : Exp E t x) : Exp E' t x := by
  have ht : ∀ l, thereF E.m E.env l = thereF E'.m E'.env l := fun l => by rw [there_congr hi, hv]
  induction h with
  | alias h8 hm hd h3 _ ih => exact .alias h8 hm (by rw [← hf]; exact hd) h3 ih
  | @opn t d h8 hm hd h3 =>
    have : openT E t.name = openT E' t.name := by rw [openT, openT, hp, hj, hn]
    rw [this]
    exact .opn h8 hm (by rw [← hf]; exact hd) h3
  | there h8 hm hp2 _ ih => rw [ht] at hp2 ih; exact .there h8 hm hp2 ih
  | node h8 hl _ ih => exact .node h8 hl ih
theorem ExpIs.turn {E E' : Env} (hf : FindsAlike E.m.decls E'.m.decls) (hi : E.m.imps = E'.m.imps) (hn : E.m.name = E'.m.name) (hp : E.pkg = E'.pkg) (hj : E.major = E'.major) (hv : E.env = E'.env) (hc : checkF E.m = none) (hc' : checkF E'.m = none) {t x : Ty} {c : Int} (h : ExpIs E t c x) : ExpIs E' t c x := by
  have ht : ∀ l, thereF E.m E.env l = thereF E'.m E'.env l := fun l => by rw [there_congr hi, hv]
  have ea : argB E t = argB E' t := by rw [argB, argB, hc, hc', hp, hj, hv]
  have hh : hadB E = hadB E' := by funext l; rw [hadB, hadB, ht]
  have ek : knownB E t = knownB E' t := by
    have : knownL E.m = knownL E'.m := by funext l; rw [knownL, knownL, hasD_of, hasD_of, hf, hi]
    rw [knownB, knownB, this]
  have ec : complB E t = complB E' t := by
    rw [complB, complB, hh]
    congr 1
    rw [Bool.eq_iff_iff, List.all_eq_true, List.all_eq_true]
    constructor
    · intro h s hs; rw [← hf.next]; exact h s ((hf.ment t s).2 hs)
    · intro h s hs; rw [hf.next]; exact h s ((hf.ment t s).1 hs)
  rcases h with ⟨a1, e⟩ | ⟨a1, a2, e⟩ | ⟨a1, a2, a3, e⟩ | ⟨a1, a2, a3, y, hy, e⟩
  · exact .inl ⟨ea ▸ a1, e⟩
  · exact .inr (.inl ⟨ea ▸ a1, ek ▸ a2, e⟩)
  · exact .inr (.inr (.inl ⟨ea ▸ a1, ek ▸ a2, ec ▸ a3, e⟩))
  · exact .inr (.inr (.inr ⟨ea ▸ a1, ek ▸ a2, ec ▸ a3, y, hy.turn hf hi hn hp hj hv, e⟩))
theorem bld_turn {E E' : Env} (hn : E.m.name = E'.m.name) (hi : E.m.imps = E'.m.imps) (hd : E.m.decls.Perm E'.m.decls) (hp : E.pkg = E'.pkg) (hj : E.major = E'.major) (hv : E.env = E'.env)
    {C C' : Ty → Int} {X X' : Ty → Ty} (h : Tells E C X) (h' : Tells E' C' X') :
    ((bldF E C X).1 = 0 ↔ (bldF E' C' X').1 = 0) ∧ ((bldF E C X).1 = 0 → (bldF E C X).2.2 = (bldF E' C' X').2.2) := by
  have hck := turnsC hn hi hd
  have hne : ∀ {m : Mdl} {p : Int × Option Nat}, checkF m = some p → p.1 ≠ 0 := by
    intro m p hp h0
    rw [checkF] at hp
    split at hp
    · rw [Option.map_eq_some_iff] at hp
      obtain ⟨⟨c, i⟩, h1, h2⟩ := hp
      rw [← h2] at h0
      have h0 : c = 0 := h0
      subst h0
      rw [amissF] at h1
      split at h1
      · cases h1
      · obtain ⟨c, hc, hm⟩ := List.exists_of_findSome?_eq_some h1
        rw [Option.map_eq_some_iff] at hm
        obtain ⟨k, _, he⟩ := hm
        injection he with h1 h2
        subst h1
        simp [codes4] at hc
    · injection hp with hp
      rw [← hp] at h0
      cases h0
  cases hc : checkF E.m with
  | some p =>
    cases hc' : checkF E'.m with
    | none => rw [hck.2 hc'] at hc; cases hc
    | some p' =>
      rw [bldF, bldF, hc, hc']
      exact ⟨⟨fun e => absurd e (hne hc), fun e => absurd e (hne hc')⟩, fun e => absurd e (hne hc)⟩
  | none =>
    have hc' := hck.1 hc
    have hw := amiss_none.1 (check_none.1 hc).2
    have hf := perm_alike hd (once_iff.1 hw.once)
    have eo : okE E = okE E' := by rw [okE, okE, hp, hj, hv]
    have eq : ∀ t, C t = C' t ∧ X t = X' t := fun t => ((h t).turn hf hi hn hp hj hv hc hc').uniq (h' t)
    have eC : C = C' := funext fun t => (eq t).1
    have eX : X = X' := funext fun t => (eq t).2
    subst eC eX
    rw [bldF, bldF, hc, hc', ← eo]
    cases ho : okE E
    · have h1 : (1 : Int) ≠ 0 := by decide
      exact ⟨⟨fun e => absurd e h1, fun e => absurd e h1⟩, fun e => absurd e h1⟩
    · have efx : firstX C E.m.decls = none ↔ firstX C E'.m.decls = none := by
        rw [firstX_none, firstX_none]
        exact ⟨fun h d hx => h d (hd.mem_iff.2 hx), fun h d hx => h d (hd.mem_iff.1 hx)⟩
      have hz : ∀ {ds : List Dcl} {i : Nat}, firstX C ds = some i → codeAt C ds i ≠ 0 := by
        intro ds i hi h0
        have := List.find?_some hi
        rw [badX] at this
        rw [codeAt] at h0
        split at this
        · rename_i d e; rw [e] at h0; have h0 : C (srcT d) = 0 := h0; rw [h0] at this; simp at this
        · cases this
      simp only [if_true]
      cases h1 : firstX C E.m.decls with
      | some i =>
        cases h2 : firstX C E'.m.decls with
        | none => rw [efx.2 h2] at h1; cases h1
        | some j => exact ⟨⟨fun e => absurd e (hz h1), fun e => absurd e (hz h2)⟩, fun e => absurd e (hz h1)⟩
      | none =>
        rw [efx.1 h1]
        refine ⟨Iff.rfl, fun _ => ?_⟩
        have e1 := sortNm_congr (tys_nodup X hw.once) ((hd.filter isTyD).map (nmOf X))
        have e2 := sortNm_congr (vas_nodup X hw.once) ((hd.filter isVaD).map (nmOf X))
        rw [tysF] at e1
        rw [vasF] at e2
        simp only [tysF, vasF, e1, e2, hp, hj, hn]
end Go.Proofs.YtjeldfipipkfiaaGreat
namespace Go.Proofs.YtjeldfipipkfiaaGreat
open Go.RowKit
set_option linter.unusedSimpArgs false
set_option linter.unusedVariables false
def zIfq : If := ⟨{ data := #[] }, 0, { data := #[] }, [], []⟩
def errB (p : Int × Option Nat × If) : Option (Int × Option Nat) := if p.1 = 0 then none else some (p.1, p.2.1)
theorem tysF_succ (X : Ty → Ty) {ds : List Dcl} {k : Nat} (h : k < ds.length) : tysF X (ds.take (k + 1)) = tysF X (ds.take k) ++ if isTyD ds[k] = true then [nmOf X ds[k]] else [] := by
  rw [tysF, tysF, List.take_succ_eq_append_getElem h, List.filter_append, List.map_append]
  congr 1
  by_cases e : isTyD ds[k] = true
  · simp [e]
  · simp [e]
theorem vasF_succ (X : Ty → Ty) {ds : List Dcl} {k : Nat} (h : k < ds.length) : vasF X (ds.take (k + 1)) = vasF X (ds.take k) ++ if isVaD ds[k] = true then [nmOf X ds[k]] else [] := by
  rw [vasF, vasF, List.take_succ_eq_append_getElem h, List.filter_append, List.map_append]
  congr 1
  by_cases e : isVaD ds[k] = true
  · simp [e]
  · simp [e]
structure BldK (C : Ty → Int) (X : Ty → Ty) (ds : List Dcl) (k : Nat) (T V : List Nm) : Prop where
  le : k ≤ ds.length
  ok : ∀ j (h : j < ds.length), j < k → ds[j].kind ≠ 2 → C (srcT ds[j]) = 0
  t : T = tysF X (ds.take k)
  v : V = vasF X (ds.take k)
theorem BldK.zero (C : Ty → Int) (X : Ty → Ty) (ds : List Dcl) : BldK C X ds 0 [] [] := ⟨Nat.zero_le _, fun j _ h => absurd h (by omega), by simp [tysF], by simp [vasF]⟩
theorem BldK.lenT {C : Ty → Int} {X : Ty → Ty} {ds : List Dcl} {k : Nat} {T V : List Nm} (h : BldK C X ds k T V) : T.length ≤ k ∧ V.length ≤ k := by
  rw [h.t, h.v, tysF, vasF, List.length_map, List.length_map]
  have h1 := List.length_filter_le isTyD (ds.take k)
  have h2 := List.length_filter_le isVaD (ds.take k)
  rw [List.length_take] at h1 h2
  omega
theorem BldK.okN {C : Ty → Int} {X : Ty → Ty} {ds : List Dcl} {k : Nat} {T V : List Nm} (h : BldK C X ds k T V) (hk : k < ds.length) (h0 : ds[k].kind ≠ 2 → C (srcT ds[k]) = 0) : ∀ j (h : j < ds.length), j < k + 1 → ds[j].kind ≠ 2 → C (srcT ds[j]) = 0 := fun j hj hjk h2 => by
  by_cases e : j = k
  · subst e; exact h0 h2
  · exact h.ok j hj (by omega) h2
theorem BldK.hid {C : Ty → Int} {X : Ty → Ty} {ds : List Dcl} {k : Nat} {T V : List Nm} {d : Dcl} (h : BldK C X ds k T V) (hk : k < ds.length) (hd : ds[k] = d) (h2 : d.kind = 2) : BldK C X ds (k + 1) T V := by
  subst hd
  refine ⟨hk, h.okN hk fun e => absurd h2 e, ?_, ?_⟩
  · rw [tysF_succ X hk, if_neg (by simp [isTyD, h2]), List.append_nil, h.t]
  · rw [vasF_succ X hk, if_neg (by simp [isVaD, h2]), List.append_nil, h.v]
theorem BldK.val {C : Ty → Int} {X : Ty → Ty} {ds : List Dcl} {k : Nat} {T V : List Nm} {d : Dcl} (h : BldK C X ds k T V) (hk : k < ds.length) (hd : ds[k] = d) (h4 : d.kind = 4) (h0 : C (srcT d) = 0) : BldK C X ds (k + 1) T (V ++ [nmOf X d]) := by
  subst hd
  refine ⟨hk, h.okN hk fun _ => h0, ?_, ?_⟩
  · rw [tysF_succ X hk, if_neg (by simp [isTyD, h4]), List.append_nil, h.t]
  · rw [vasF_succ X hk, if_pos (by simp [isVaD, h4]), h.v]
theorem BldK.typ {C : Ty → Int} {X : Ty → Ty} {ds : List Dcl} {k : Nat} {T V : List Nm} {d : Dcl} (h : BldK C X ds k T V) (hk : k < ds.length) (hd : ds[k] = d) (h2 : d.kind ≠ 2) (h4 : d.kind ≠ 4) (h0 : C (srcT d) = 0) : BldK C X ds (k + 1) (T ++ [nmOf X d]) V := by
  subst hd
  refine ⟨hk, h.okN hk fun _ => h0, ?_, ?_⟩
  · rw [tysF_succ X hk, if_pos (by simp [isTyD, h2, h4]), h.t]
  · rw [vasF_succ X hk, if_neg (by simp [isVaD, h4]), List.append_nil, h.v]
theorem firstX_hit {C : Ty → Int} {ds : List Dcl} {k : Nat} (hk : k < ds.length) (h : ∀ j (h : j < ds.length), j < k → ds[j].kind ≠ 2 → C (srcT ds[j]) = 0) (h2 : ds[k].kind ≠ 2) (h0 : C (srcT ds[k]) ≠ 0) : firstX C ds = some k := by
  have e : ∀ j (hj : j < ds.length), badX C ds j = (ds[j].kind != 2 && C (srcT ds[j]) != 0) := fun j hj => by rw [badX, List.getElem?_eq_getElem hj]
  rw [firstX, List.find?_eq_some_iff_getElem]
  refine ⟨by rw [e k hk]; simp [h2, h0], k, by simpa using hk, by simp, fun j hj => ?_⟩
  rw [List.getElem_range, e j (by omega)]
  by_cases h3 : ds[j].kind = 2
  · simp [h3]
  · simp [h j (by omega) hj h3]
theorem BldK.bad {C : Ty → Int} {X : Ty → Ty} {E : Env} {k : Nat} {T V : List Nm} {d : Dcl} (h : BldK C X E.m.decls k T V) (hk : k < E.m.decls.length) (hd : E.m.decls[k] = d) (h2 : d.kind ≠ 2) (h0 : C (srcT d) ≠ 0) (hc : checkF E.m = none) (ho : okE E = true) : bldF E C X = (C (srcT d), some k, zIfq) := by
  subst hd
  rw [bldF, hc]
  simp only [if_pos ho, firstX_hit hk h.ok h2 h0]
  rw [codeAt, List.getElem?_eq_getElem hk]
  rfl
theorem BldK.done {C : Ty → Int} {X : Ty → Ty} {E : Env} {T V : List Nm} (h : BldK C X E.m.decls E.m.decls.length T V) (hc : checkF E.m = none) (ho : okE E = true) : bldF E C X = (0, none, ⟨E.pkg, E.major, E.m.name, sortNm T, sortNm V⟩) := by
  have hf : firstX C E.m.decls = none := firstX_none.2 fun d hd h2 => by
    obtain ⟨j, hj, rfl⟩ := List.getElem_of_mem hd
    exact h.ok j hj hj h2
  have ht := h.t
  have hv := h.v
  rw [List.take_length] at ht hv
  rw [bldF, hc]
  simp only [if_pos ho, hf, ht, hv]
theorem bld_amiss {C : Ty → Int} {X : Ty → Ty} {E : Env} {p : Int × Option Nat} (hc : checkF E.m = some p) : bldF E C X = (p.1, p.2, zIfq) := by rw [bldF, hc]; rfl
theorem bld_arg {C : Ty → Int} {X : Ty → Ty} {E : Env} (hc : checkF E.m = none) (ho : okE E = false) : bldF E C X = (1, none, zIfq) := by
  rw [bldF, hc]
  simp only [ho]
  rfl
end Go.Proofs.YtjeldfipipkfiaaGreat
