/- The bounds of types, in plain Lean: above both, below all that is (or the other way round); in both orders the same. No program in sight. -/
import Derived.Test.YtalpmjmifcofeaaBoundC
import Derived.Test.YtalpmjmifcofeaaOrdLaw
namespace Go.Proofs.Ytalpmjmifcofeaa
set_option linter.unusedSimpArgs false
set_option linter.unusedVariables false
theorem allSome_iff {α : Type} : ∀ (l : List (Option α)) (L : List α), allSome l = some L ↔ l = L.map some
  | [], L => by
    simp only [allSome, Option.some.injEq]
    constructor
    · rintro rfl; rfl
    · intro h; cases L with
      | nil => rfl
      | cons _ _ => simp at h
  | none :: l, L => by
    simp only [allSome]
    constructor
    · intro h; cases h
    · intro h; cases L <;> simp at h
  | some x :: l, L => by
    simp only [allSome, Option.map_eq_some_iff, allSome_iff l]
    constructor
    · rintro ⟨L', h, rfl⟩; rw [h]; rfl
    · intro h
      cases L with
      | nil => simp at h
      | cons y L =>
        simp only [List.map_cons, List.cons.injEq, Option.some.injEq] at h
        exact ⟨L, h.2, by rw [h.1]⟩
theorem rise_pair (l : List ByteArray) : riseB l = true ↔ l.Pairwise (fun x y => ltB x y = true) := by
  rw [List.pairwise_iff_getElem]
  constructor
  · intro h i j hi hj hij
    exact rise_lt h i j hij hj
  · intro h
    rw [riseB_iff]
    intro i hi
    exact h i (i + 1) (by omega) hi (by omega)
theorem ofT_get {t : Ty} (hr : riseB t.names = true) (hl : t.names.length ≤ t.subs.length) {i : Nat} (hi : i < t.names.length) : ofT t t.names[i] = t.subs[i]'(by omega) := by
  rw [ofT, if_pos (mem_at hi), first_at hr hi, getD_at (by omega)]
/-- what a record, or a variant, has of each name -/
structure Desc (x : Ty) (g : ByteArray → Option Ty) : Prop where
  rise : riseB x.names = true
  len : x.names.length = x.subs.length
  has : ∀ s t, g s = some t → s ∈ x.names
  val : ∀ s, s ∈ x.names → g s = some (ofT x s)
theorem Desc.uniq {x y : Ty} {g : ByteArray → Option Ty} (h : Desc x g) (h' : Desc y g) : x.names = y.names ∧ x.subs = y.subs := by
  have hn : x.names = y.names := rise_eq h.rise h'.rise fun s => ⟨fun hs => h'.has _ _ (h.val s hs), fun hs => h.has _ _ (h'.val s hs)⟩
  have hl : x.names.length = y.names.length := by rw [hn]
  refine ⟨hn, List.ext_getElem (by rw [← h.len, ← h'.len, hl]) fun i h1 h2 => ?_⟩
  have i1 : i < x.names.length := by rw [h.len]; exact h1
  have i2 : i < y.names.length := by rw [h'.len]; exact h2
  have e1 := h.val _ (List.getElem_mem i1)
  have e2 := h'.val _ (List.getElem_mem i2)
  have e3 : y.names[i] = x.names[i] := by simp only [hn]
  rw [e3, e1] at e2
  rw [← ofT_get h.rise (Nat.le_of_eq h.len) i1, ← ofT_get h'.rise (Nat.le_of_eq h'.len) i2, e3]
  exact Option.some.inj e2
theorem Desc.congr {x : Ty} {g g' : ByteArray → Option Ty} (h : Desc x g) (e : ∀ s, g s = g' s) : Desc x g' :=
  ⟨h.rise, h.len, fun s t hs => h.has s t ((e s).trans hs), fun s hs => (e s).symm.trans (h.val s hs)⟩
theorem may_desc {a : Ty} (ma : mayT a = true) (hk : a.kind = 5 ∨ a.kind = 6) : Desc a (fun s => if memB s a.names then some (ofT a s) else none) :=
  ⟨(may_rows ma hk).rise, (may_same ma hk).symm, fun s t h => by
    by_cases hm : memB s a.names = true
    · exact (memB_iff _ _).1 hm
    · simp [hm] at h, fun s hs => by simp [(memB_iff _ _).2 hs]⟩
theorem desc_list (k : Int) {L : List (ByteArray × Ty)} {g : ByteArray → Option Ty} (hr : riseB (L.map (·.1)) = true) (hg : ∀ s t, (s, t) ∈ L ↔ g s = some t) : Desc (tyOf k L) g := by
  refine ⟨hr, by simp [tyOf, Ty.names, Ty.subs], fun s t h => ?_, fun s hs => ?_⟩
  · exact List.mem_map.2 ⟨_, (hg s t).2 h, rfl⟩
  · have hs' : s ∈ (tyOf k L).names := hs
    obtain ⟨i, hi, rfl⟩ := List.getElem_of_mem hs'
    have hi' : i < L.length := by simpa [tyOf, Ty.names] using hi
    have hr' : riseB (tyOf k L).names = true := hr
    rw [ofT_get hr' (by simp [tyOf, Ty.names, Ty.subs]) hi]
    have e1 : (tyOf k L).names[i] = L[i].1 := by simp [tyOf, Ty.names]
    have e2 : (tyOf k L).subs[i]'(by simpa [tyOf, Ty.subs] using hi') = L[i].2 := by simp [tyOf, Ty.subs]
    rw [e1, e2]
    exact (hg _ _).1 (List.getElem_mem hi')
theorem bothL_iff (r : Ty → Ty → Option Ty) (b : Ty) (s : ByteArray) (t : Ty) : ∀ (ns : List ByteArray) (ss : List Ty), (s, t) ∈ bothL r b ns ss ↔ ∃ i, ∃ (h : i < ns.length) (h' : i < ss.length), ns[i] = s ∧ memB s b.names = true ∧ r ss[i] (ofT b s) = some t
  | [], _ => by simp [bothL]
  | _ :: _, [] => by simp [bothL]
  | n :: ns, x :: ss => by
    rw [bothL, List.mem_append, bothL_iff r b s t ns ss]
    constructor
    · rintro (h | ⟨i, h, h', e⟩)
      · split at h
        · split at h
          · rename_i hm _ t' hr
            simp at h
            obtain ⟨rfl, rfl⟩ := h
            exact ⟨0, by simp, by simp, rfl, hm, hr⟩
          · simp at h
        · simp at h
      · exact ⟨i + 1, by simpa using h, by simpa using h', e⟩
    · rintro ⟨i, h, h', e1, e2, e3⟩
      cases i with
      | zero =>
        left
        simp only [List.getElem_cons_zero] at e1 e3
        subst e1
        rw [if_pos e2, e3]
        simp
      | succ i =>
        exact .inr ⟨i, by simpa using h, by simpa using h', e1, e2, e3⟩
theorem bothL_sub (r : Ty → Ty → Option Ty) (b : Ty) : ∀ (ns : List ByteArray) (ss : List Ty), ((bothL r b ns ss).map (·.1)).Sublist ns
  | [], _ => by simp [bothL]
  | _ :: _, [] => by simp [bothL]
  | n :: ns, x :: ss => by
    rw [bothL, List.map_append]
    have ih := bothL_sub r b ns ss
    split
    · split
      · exact ih.cons_cons n
      · exact ih.cons n
    · exact ih.cons n
def bothG (r : Ty → Ty → Option Ty) (a b : Ty) (s : ByteArray) : Option Ty := if memB s a.names && memB s b.names then r (ofT a s) (ofT b s) else none
theorem join_desc {r : Ty → Ty → Option Ty} {a b : Ty} (hr : riseB a.names = true) (hl : a.names.length ≤ a.subs.length) : Desc (joinR r a b) (bothG r a b) := by
  refine desc_list a.kind (L := bothL r b a.names a.subs) ((rise_pair _).2 (((rise_pair _).1 hr).sublist (bothL_sub r b a.names a.subs))) fun s t => ?_
  rw [bothL_iff]
  constructor
  · rintro ⟨i, h, h', rfl, e2, e3⟩
    rw [bothG, mem_at h, e2, ofT_get hr hl h]
    exact e3
  · intro h
    unfold bothG at h
    split at h
    · rename_i hm
      rw [Bool.and_eq_true] at hm
      obtain ⟨i, hi, rfl⟩ := List.getElem_of_mem ((memB_iff _ _).1 hm.1)
      rw [ofT_get hr hl hi] at h
      exact ⟨i, hi, by omega, rfl, hm.2, h⟩
    · cases h
def eithH (r : Ty → Ty → Option Ty) (a b : Ty) (s : ByteArray) : Option Ty := if memB s a.names || memB s b.names then eithE r a b s else none
theorem eith_some {r : Ty → Ty → Option Ty} {a b x : Ty} (h : eitherR r a b = some x) : ∃ L, x = tyOf a.kind L ∧ (unionN a.names b.names).map (eithG r a b) = L.map some := by
  unfold eitherR at h
  rw [Option.map_eq_some_iff] at h
  obtain ⟨L, h1, rfl⟩ := h
  exact ⟨L, rfl, (allSome_iff _ _).1 h1⟩
theorem eith_desc {r : Ty → Ty → Option Ty} {a b x : Ty} (h : eitherR r a b = some x) : Desc x (eithH r a b) ∧ ∀ s, s ∈ a.names ∨ s ∈ b.names → s ∈ x.names := by
  obtain ⟨L, rfl, hL⟩ := eith_some h
  have hn : L.map (·.1) = unionN a.names b.names := by
    have h1 := congrArg (List.map (Option.map Prod.fst)) hL
    rw [List.map_map, List.map_map] at h1
    have h2 : (unionN a.names b.names).map (Option.map Prod.fst ∘ eithG r a b) = (unionN a.names b.names).map some := by
      refine List.map_congr_left fun n hn => ?_
      have : eithG r a b n ∈ L.map some := by rw [← hL]; exact List.mem_map.2 ⟨n, hn, rfl⟩
      obtain ⟨y, -, hy⟩ := List.mem_map.1 this
      show Option.map Prod.fst (eithG r a b n) = some n
      rw [eithG] at hy ⊢
      cases he : eithE r a b n with
      | none => rw [he] at hy; simp at hy
      | some t => rfl
    rw [h2] at h1
    have h3 : (L.map (·.1)).map some = (unionN a.names b.names).map some := by
      rw [List.map_map]
      exact h1.symm
    exact (List.map_inj_right fun _ _ e => Option.some.inj e).1 h3
  have hg : ∀ s t, (s, t) ∈ L ↔ eithH r a b s = some t := by
    intro s t
    have hs : (s, t) ∈ L ↔ some (s, t) ∈ (unionN a.names b.names).map (eithG r a b) := by
      rw [hL]
      simp
    rw [hs, List.mem_map]
    unfold eithH
    constructor
    · rintro ⟨n, hn, e⟩
      rw [eithG, Option.map_eq_some_iff] at e
      obtain ⟨t', e1, e2⟩ := e
      simp at e2
      obtain ⟨rfl, rfl⟩ := e2
      have hm := (unionN_mem _ _ _).1 hn
      rw [if_pos (by simpa [memB_iff] using hm)]
      exact e1
    · intro e
      split at e
      · rename_i hm
        exact ⟨s, (unionN_mem _ _ _).2 (by simpa [memB_iff] using hm), by rw [eithG, e]; rfl⟩
      · cases e
  refine ⟨desc_list _ (by rw [hn]; exact unionN_rise _ _) hg, fun s hs => ?_⟩
  show s ∈ L.map (·.1)
  rw [hn]
  exact (unionN_mem _ _ _).2 hs
theorem eith_all {r : Ty → Ty → Option Ty} {a b : Ty} (h : ∀ s, s ∈ a.names ∨ s ∈ b.names → (eithE r a b s).isSome = true) : ∃ x, eitherR r a b = some x := by
  have : ∃ L : List (ByteArray × Ty), (unionN a.names b.names).map (eithG r a b) = L.map some := by
    refine ⟨(unionN a.names b.names).map fun s => (s, (eithE r a b s).getD zeroTy), ?_⟩
    rw [List.map_map]
    refine List.map_congr_left fun n hn => ?_
    have := h n ((unionN_mem _ _ _).1 hn)
    rw [eithG]
    cases he : eithE r a b n with
    | none => rw [he] at this; cases this
    | some t => simp [he]
  obtain ⟨L, hL⟩ := this
  exact ⟨_, by unfold eitherR; rw [(allSome_iff _ _).2 hL]; rfl⟩
theorem parts_some {r : Bool → Ty → Ty → Option Ty} {up : Bool} {a b x : Ty} (h : partsR r up a b = some x) : a.subs.length = b.subs.length ∧ ∃ L, x = .mk a.kind { data := #[] } 0 { data := #[] } { data := #[] } [] L ∧ L.length = a.subs.length ∧ ∀ i (hi : i < L.length), partG r up a b i = some L[i] := by
  unfold partsR at h
  split at h
  · rename_i hl
    rw [Option.map_eq_some_iff] at h
    obtain ⟨L, h1, rfl⟩ := h
    have h2 := (allSome_iff _ _).1 h1
    have h3 := congrArg List.length h2
    simp at h3
    refine ⟨hl, L, rfl, h3.symm, fun i hi => ?_⟩
    have h4 : ((List.range a.subs.length).map (partG r up a b))[i]? = (L.map some)[i]? := by rw [h2]
    simpa [hi, show i < a.subs.length by omega] using h4
  · cases h
theorem parts_all {r : Bool → Ty → Ty → Option Ty} {up : Bool} {a b : Ty} (L : List Ty) (hl : a.subs.length = b.subs.length) (hL : L.length = a.subs.length) (h : ∀ i (hi : i < L.length), partG r up a b i = some L[i]) : partsR r up a b = some (.mk a.kind { data := #[] } 0 { data := #[] } { data := #[] } [] L) := by
  refine partsR_some r up a b L hl ((allSome_iff _ _).2 (List.ext_getElem (by simp [hL]) fun i h1 h2 => ?_))
  have hi : i < L.length := by simpa using h2
  simpa using h i hi
theorem parts_ex {r : Bool → Ty → Ty → Option Ty} {up : Bool} {a b : Ty} (hl : a.subs.length = b.subs.length) (h : ∀ i, i < a.subs.length → (partG r up a b i).isSome = true) : ∃ x, partsR r up a b = some x := by
  refine ⟨_, parts_all ((List.range a.subs.length).map fun i => (partG r up a b i).getD zeroTy) hl (by simp) fun i hi => ?_⟩
  have hi' : i < a.subs.length := by simpa using hi
  have := h i hi'
  cases he : partG r up a b i with
  | none => rw [he] at this; cases this
  | some t => simp [he]
def leF (n : Nat) (up : Bool) (a c : Ty) : Bool := if up then subF n a c else subF n c a
theorem leF_flip (n : Nat) (v : Bool) (a b : Ty) : leF n (!v) a b = leF n v b a := by cases v <;> rfl
theorem le_kind {n : Nat} {up : Bool} {a c : Ty} (h : leF (n + 1) up a c = true) : a.kind = c.kind := by
  cases up
  · exact (subF_kind (by simpa [leF] using h)).symm
  · exact subF_kind (by simpa [leF] using h)
theorem cover_set {r : Ty → Ty → Bool} {a b : Ty} (hr : riseB b.names = true) (hl : b.names.length = b.subs.length) : coverL r a b.names b.subs = true ↔ ∀ s, s ∈ b.names → s ∈ a.names ∧ r (ofT a s) (ofT b s) = true := by
  rw [cover_iff]
  constructor
  · intro h s hs
    obtain ⟨i, hi, rfl⟩ := List.getElem_of_mem hs
    obtain ⟨h1, h2⟩ := h i hi (by omega)
    exact ⟨(memB_iff _ _).1 h1, by rw [ofT_get hr (Nat.le_of_eq hl) hi]; exact h2⟩
  · intro h i hi hi'
    obtain ⟨h1, h2⟩ := h _ (List.getElem_mem hi)
    rw [ofT_get hr (Nat.le_of_eq hl) hi] at h2
    exact ⟨(memB_iff _ _).2 h1, h2⟩
/-- of both the whole of names is taken -/
def isE (k : Int) (up : Bool) : Prop := (k = 6 ∧ up = true) ∨ (k = 5 ∧ up = false)
def isB (k : Int) (up : Bool) : Prop := (k = 5 ∧ up = true) ∨ (k = 6 ∧ up = false)
theorem sub5 {n : Nat} {a b : Ty} (ha : a.kind = 5) (hb : b.kind = 5) : subF (n + 1) a b = coverL (subF n) a b.names b.subs := by
  rw [subF, if_pos (ha.trans hb.symm), if_neg (by omega), if_pos ha]
theorem sub6 {n : Nat} {a b : Ty} (ha : a.kind = 6) (hb : b.kind = 6) : subF (n + 1) a b = coverL (fun x y => subF n y x) b a.names a.subs := by
  rw [subF, if_pos (ha.trans hb.symm), if_neg (by omega), if_neg (by omega), if_pos ha]
theorem le_eith {n : Nat} {up : Bool} {a c : Ty} (hk : a.kind = c.kind) (he : isE a.kind up) (hr : riseB a.names = true) (hl : a.names.length = a.subs.length) :
    leF (n + 1) up a c = true ↔ ∀ s, s ∈ a.names → s ∈ c.names ∧ leF n up (ofT a s) (ofT c s) = true := by
  rcases he with ⟨h6, rfl⟩ | ⟨h5, rfl⟩
  · rw [leF, if_pos rfl, sub6 h6 (hk ▸ h6), cover_set hr hl]
    rfl
  · rw [leF, if_neg (by decide), sub5 (hk ▸ h5) h5, cover_set hr hl]
    rfl
theorem le_both {n : Nat} {up : Bool} {a c : Ty} (hk : a.kind = c.kind) (he : isB a.kind up) (hr : riseB c.names = true) (hl : c.names.length = c.subs.length) :
    leF (n + 1) up a c = true ↔ ∀ s, s ∈ c.names → s ∈ a.names ∧ leF n up (ofT a s) (ofT c s) = true := by
  rcases he with ⟨h5, rfl⟩ | ⟨h6, rfl⟩
  · rw [leF, if_pos rfl, sub5 h5 (hk ▸ h5), cover_set hr hl]
    rfl
  · rw [leF, if_neg (by decide), sub6 (hk ▸ h6) h6, cover_set hr hl]
    rfl
theorem le_parts {n : Nat} {up : Bool} {a c : Ty} {m : Nat} (hk : a.kind = c.kind) (h47 : a.kind = 4 ∧ m = 1 ∨ a.kind = 7 ∧ 1 ≤ m) (ha : a.subs.length = m) (hc : c.subs.length = m) :
    leF (n + 1) up a c = true ↔ ∀ i, i < m → leF n (wayOf up a i) (a.subs.getD i zeroTy) (c.subs.getD i zeroTy) = true := by
  rcases h47 with ⟨h4, h1⟩ | ⟨h7, h1⟩
  · have hw : ∀ i, wayOf up a i = up := fun i => by unfold wayOf; rw [if_neg (by omega)]
    have e : leF (n + 1) up a c = leF n up (a.subs.getD 0 zeroTy) (c.subs.getD 0 zeroTy) := by
      cases up
      · rw [leF, leF, if_neg (by decide), if_neg (by decide), subF, if_pos hk.symm, if_pos (hk ▸ h4)]
      · rw [leF, leF, if_pos rfl, if_pos rfl, subF, if_pos hk, if_pos h4]
    rw [e]
    constructor
    · intro h i hi
      obtain rfl : i = 0 := by omega
      rw [hw]; exact h
    · intro h
      have := h 0 (by omega)
      rwa [hw] at this
  · have hw : ∀ i, wayOf up a i = if i < m - 1 then !up else up := fun i => by unfold wayOf; simp [h7, ha]
    have e : leF (n + 1) up a c = true ↔ leF n up (a.subs.getD (m - 1) zeroTy) (c.subs.getD (m - 1) zeroTy) = true ∧ ∀ i, i < m - 1 → leF n (!up) (a.subs.getD i zeroTy) (c.subs.getD i zeroTy) = true := by
      cases up
      · rw [leF, leF, if_neg (by decide), if_neg (by decide), subF, if_pos hk.symm, if_neg (by omega), if_neg (by omega), if_neg (by omega), if_pos (hk ▸ h7), func_iff, hc, ha]
        simp [leF]
      · rw [leF, leF, if_pos rfl, if_pos rfl, subF, if_pos hk, if_neg (by omega), if_neg (by omega), if_neg (by omega), if_pos h7, func_iff, hc, ha]
        simp [leF]
    rw [e]
    constructor
    · rintro ⟨h1, h2⟩ i hi
      rw [hw]
      by_cases hi' : i < m - 1
      · rw [if_pos hi']; exact h2 i hi'
      · rw [if_neg hi']
        obtain rfl : i = m - 1 := by omega
        exact h1
    · intro h
      refine ⟨?_, fun i hi => ?_⟩
      · have := h (m - 1) (by omega)
        rwa [hw, if_neg (by omega)] at this
      · have := h i (by omega)
        rwa [hw, if_pos hi] at this
end Go.Proofs.Ytalpmjmifcofeaa
