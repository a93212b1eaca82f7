/- The tokens' texts are of one sort each; the manifest of a row of texts, the document's way; both ways tell the same. Plain Lean; no condition. -/
import Derived.Test.YtlpgkldialmofaaGreatDoorManL
namespace Go.Proofs.YtlpgkldialmofaaGreatDoor
open Go.RowKit
set_option linter.unusedSimpArgs false
set_option linter.unusedVariables false
theorem take_runN (p : UInt8 → Bool) (l : List UInt8) : l.take (runN p l) = l.takeWhile p := by
  unfold runN
  exact (List.prefix_iff_eq_take.1 (List.takeWhile_prefix p)).symm
theorem homo_while {p : UInt8 → Bool} {x : UInt8} {r : List UInt8} (hx : p x = true) (h46 : p 46 = false) : Homo ((x :: r).takeWhile p) := by
  refine ⟨by rw [List.takeWhile_cons, if_pos hx]; simp, false, fun c hc => ?_⟩
  have h := List.all_takeWhile (l := x :: r) (p := p)
  rw [List.all_eq_true] at h
  have := h c hc
  rw [beq_eq_false_iff_ne]
  rintro rfl
  rw [h46] at this; cases this
theorem first_homo {l : List UInt8} (h : (firstF l).2 ≠ 0) : Homo (l.take (firstF l).2) := by
  cases l with
  | nil => exact absurd rfl h
  | cons x r =>
    rw [firstF_cons] at h ⊢
    by_cases h1 : smallC x = true
    · rw [if_pos h1, take_runN]
      exact homo_while (small_word h1) (by decide)
    rw [if_neg h1] at h ⊢
    by_cases h2 : greatC x = true
    · rw [if_pos h2, take_runN]
      exact homo_while (great_word h2) (by decide)
    rw [if_neg h2] at h ⊢
    by_cases h3 : digitC x = true
    · rw [if_pos h3, take_runN]
      exact homo_while h3 (by decide)
    rw [if_neg h3] at h ⊢
    have byte : ∀ {c : UInt8} {n : Nat}, n < 256 → c.toNat = n → c = UInt8.ofNat n := fun {c n} hn hc => by rw [← hc]; simp
    by_cases h4 : x.toNat = 45 ∧ (r.head?.map UInt8.toNat) = some 62
    · rw [if_pos h4]
      obtain ⟨e1, e2⟩ := h4
      cases r with
      | nil => cases e2
      | cons y r =>
        simp at e2
        have e1 := byte (by decide) e1
        have e2 := byte (by decide) e2
        subst e1 e2
        exact ⟨by simp, false, fun c hc => by simp at hc; rcases hc with rfl | rfl <;> rfl⟩
    rw [if_neg h4] at h ⊢
    by_cases h5 : x.toNat = 46 ∧ (r.head?.map UInt8.toNat) = some 46
    · rw [if_pos h5]
      obtain ⟨e1, e2⟩ := h5
      cases r with
      | nil => cases e2
      | cons y r =>
        simp at e2
        have e1 := byte (by decide) e1
        have e2 := byte (by decide) e2
        subst e1 e2
        exact homo_dots
    rw [if_neg h5] at h ⊢
    by_cases h6 : signB x = true
    · rw [if_pos h6]
      exact ⟨by simp, (x == 46), fun c hc => by simp at hc; subst hc; rfl⟩
    · rw [if_neg h6] at h
      exact absurd rfl h
theorem step_homo {l : List UInt8} {kd n : Nat} (h : stepF l = some (kd + 1, n)) : Homo (l.take n) := by
  cases l with
  | nil => cases h
  | cons x r =>
    rw [stepF_cons] at h
    split at h
    · simp at h
    split at h
    · simp at h
    split at h
    · cases h
    rename_i hz
    injection h with h
    have e : n = (firstF (x :: r)).2 := by rw [h]
    rw [e]
    exact first_homo hz
theorem scan_homo (s : ByteArray) : ∀ (f k : Nat) (ts : List Tok), (∀ t ∈ ts, Homo t.text.data.toList) → ∀ t ∈ (scan s f k ts).1, Homo t.text.data.toList
  | 0, _, ts, h => h
  | f + 1, k, ts, h => by
    rw [scan]
    split
    · split
      · exact h
      · exact scan_homo s f _ _ h
      · rename_i kd n hst
        refine scan_homo s f _ _ fun t ht => ?_
        rcases List.mem_append.1 ht with ht | ht
        · exact h t ht
        · simp at ht
          subst ht
          have e : (s.extract k (k + n)).data.toList = (s.data.toList.drop k).take n := by
            rw [ByteArray.data_extract, Array.toList_extract, List.extract_eq_take_drop]
            congr 1
            omega
          show Homo (s.extract k (k + n)).data.toList
          rw [e]
          exact step_homo hst
    · exact h
theorem texts_homo {s : ByteArray} {ts : List Tok} {o : Option Nat} (h : scanAll s = (ts, o)) : ∀ t ∈ ts.map Tok.text, Homo t.data.toList := by
  intro x hx
  obtain ⟨t, ht, rfl⟩ := List.mem_map.1 hx
  have := scan_homo s s.size 0 [] (fun _ h => by cases h) t
  rw [show scan s s.size 0 [] = (ts, o) from h] at this
  exact this ht
/-- text number i -/
def getB (ts : List ByteArray) (i : Nat) : ByteArray := ts.getD i { data := #[] }
def kDots : ByteArray := { data := #[46, 46] }
/-- is what stands here a dep, thirteen texts long? -/
def cOk (u : List ByteArray) : Bool := (decide (getB u 0 = kDep) && decide (getB u 7 = kDots)) && ((parseF (catL ((u.drop 2).take 5))).isSome && (parseF (catL ((u.drop 8).take 5))).isSome)
def cDep (u : List ByteArray) : Dp := (getB u 1, (parV (catL ((u.drop 2).take 5)), parV (catL ((u.drop 8).take 5))))
/-- so many deps -/
def depsR (m : Nat) (u : List ByteArray) : List Dp := (List.range m).map fun j => cDep (u.drop (13 * j))
def chksR (m : Nat) (u : List ByteArray) : Bool := (List.range m).all fun j => cOk (u.drop (13 * j))
theorem depsR_succ (m : Nat) (u : List ByteArray) : depsR (m + 1) u = cDep u :: depsR m (u.drop 13) := by
  unfold depsR
  rw [List.range_succ_eq_map, List.map_cons, List.map_map]
  congr 1
  apply List.map_congr_left
  intro j _
  simp only [Function.comp, List.drop_drop]
  rw [show 13 * j.succ = 13 + 13 * j by omega]
theorem chksR_succ (m : Nat) (u : List ByteArray) : chksR (m + 1) u = (cOk u && chksR m (u.drop 13)) := by
  unfold chksR
  rw [List.range_succ_eq_map, List.all_cons, List.all_map]
  congr 1
  have : ((fun j => cOk (List.drop (13 * j) u)) ∘ Nat.succ) = fun j => cOk (List.drop (13 * j) (List.drop 13 u)) := by
    funext j
    simp only [Function.comp, List.drop_drop]
    rw [show 13 * j.succ = 13 + 13 * j by omega]
  rw [this]
/-- the manifest of a row of texts, the document's way -/
def refM (ts : List ByteArray) : Option (ByteArray × (Int × Int × Int) × List Dp) :=
  if (8 ≤ ts.length ∧ (ts.length - 8) % 13 = 0 ∧ getB ts 0 = kPkg ∧ getB ts 2 = kVer) ∧ chksR ((ts.length - 8) / 13) (ts.drop 8) = true ∧ (parseF (catL ((ts.drop 3).take 5))).isSome = true ∧ mayM (getB ts 1) (parV (catL ((ts.drop 3).take 5))) (depsR ((ts.length - 8) / 13) (ts.drop 8)) = true then
    some (getB ts 1, parV (catL ((ts.drop 3).take 5)), depsR ((ts.length - 8) / 13) (ts.drop 8)) else none
theorem nextF_yes {p : ByteArray → Bool} {ts : List ByteArray} (h : (nextF p ts).1.2 = true) : ∃ t r, ts = t :: r ∧ p t = true ∧ nextF p ts = ((t, true), r) := by
  cases ts with
  | nil => cases h
  | cons t r =>
    rw [nextF] at h ⊢
    split at h
    · rename_i h'
      exact ⟨t, r, rfl, h', by rw [if_pos h']⟩
    · cases h
theorem nextF_no {p : ByteArray → Bool} {ts : List ByteArray} (h : (nextF p ts).1.2 = false) : nextF p ts = (({ data := #[] }, false), ts) := by
  cases ts with
  | nil => rfl
  | cons t r =>
    rw [nextF] at h ⊢
    split at h
    · cases h
    · rename_i h'
      rw [if_neg h']
theorem nextF_hit {p : ByteArray → Bool} {t : ByteArray} {r : List ByteArray} (h : p t = true) : nextF p (t :: r) = ((t, true), r) := by rw [nextF, if_pos h]
theorem keyP_iff (k t : ByteArray) : keyP k t = true ↔ t = k := by
  rw [keyP, beq_iff_eq, bytes_eqV]
theorem depsF_false (n : Nat) (u : List ByteArray) (acc : List Dp) : depsF n false u acc = (false, u, acc) := by cases n <;> rfl
theorem depsF_to : ∀ (n : Nat) (u : List ByteArray) (acc ds : List Dp), (∀ t ∈ u, Homo t.data.toList) → depsF n true u acc = (true, [], ds) → ∃ m, u.length = 13 * m ∧ ds = acc ++ depsR m u ∧ chksR m u = true
  | 0, u, acc, ds, _, h => by
    rw [depsF] at h
    simp at h
    obtain ⟨rfl, rfl⟩ := h
    exact ⟨0, rfl, by simp [depsR], rfl⟩
  | n + 1, u, acc, ds, hu, h => by
    rw [depsF, if_pos rfl] at h
    by_cases hk : (nextF (keyP kDep) u).1.2 = true
    · rw [if_pos hk] at h
      obtain ⟨t, r, rfl, ht, e⟩ := nextF_yes hk
      rw [e] at h
      have ht := (keyP_iff _ _).1 ht
      subst ht
      simp only at h
      by_cases hf : (depF r).2.2.1 = true
      rotate_left
      · rw [Bool.not_eq_true] at hf
        rw [hf, depsF_false] at h
        cases h
      rw [hf] at h
      have hf2 := hf
      rw [depF, Bool.and_eq_true, decide_eq_true_eq] at hf2
      obtain ⟨hf1, hf2⟩ := hf2
      obtain ⟨p, r', rfl, hp, e2⟩ := nextF_yes hf1
      rw [e2] at hf2
      simp only at hf2
      cases hr : rangeF okR (catL (r'.take 11)) with
      | none => rw [parRE, hr] at hf2; exact absurd hf2 (by decide)
      | some x =>
        obtain ⟨lo, hi⟩ := x
        obtain ⟨g1, g2, g3, g4, g5⟩ := eleven (ok := okR) (ts := r'.take 11) (fun t ht => hu t (by have := List.mem_of_mem_take ht; simp [this])) (List.length_take_le _ _) hr
        have hl : 11 ≤ r'.length := by rw [List.length_take] at g1; omega
        have ed : depF (p :: r') = (p, (lo, hi), true, r'.drop 11) := by
          rw [depF, e2]
          simp only [parR, parRE, hr]
          rfl
        rw [ed] at h
        simp only at h
        obtain ⟨m, h1, h2, h3⟩ := depsF_to n (r'.drop 11) (acc ++ [(p, (lo, hi))]) ds (fun t ht => hu t (by have := List.mem_of_mem_drop ht; simp [this])) h
        rw [List.length_drop] at h1
        have t5 : ((kDep :: p :: r').drop 2).take 5 = (r'.take 11).take 5 := by
          rw [List.take_take]; rfl
        have t6 : ((kDep :: p :: r').drop 8).take 5 = (r'.take 11).drop 6 := by
          rw [List.drop_take]; rfl
        refine ⟨m + 1, by simp; omega, ?_, ?_⟩
        · rw [h2, depsR_succ, cDep, t5, t6, parV, g3, parV, g4]
          simp [getB]
        · rw [chksR_succ, cOk, t5, t6, g3, g4]
          have q7 : getB (kDep :: p :: r') 7 = kDots := by
            show r'.getD 5 _ = _
            rw [List.head?_drop, List.getElem?_take, if_pos (by omega)] at g2
            rw [List.getD_eq_getElem?_getD, g2]; rfl
          rw [q7]
          simpa [getB] using h3
    · rw [if_neg hk] at h
      simp at h
      obtain ⟨rfl, rfl⟩ := h
      exact ⟨0, rfl, by simp [depsR], rfl⟩
theorem five_more {u : List ByteArray} (hu : ∀ t ∈ u, Homo t.data.toList) {v : Int × Int × Int} (h : parseF (catL (u.take 5)) = some v) : 5 ≤ u.length := by
  have := five (ts := u.take 5) (fun t ht => hu t (List.mem_of_mem_take ht)) h
  rw [List.length_take] at this; omega
theorem head13 {u : List ByteArray} (h : 13 ≤ u.length) : ∃ t p r, u = t :: p :: r ∧ 11 ≤ r.length := by
  match u, h with
  | t :: p :: r, h => exact ⟨t, p, r, rfl, by simp at h; omega⟩
theorem depsF_from : ∀ (m n : Nat) (u : List ByteArray) (acc : List Dp), u.length = 13 * m → u.length ≤ n → chksR m u = true → (∀ d ∈ depsR m u, Idn.smallB d.1 = true ∧ okR d.2.1 d.2.2 = true) → depsF n true u acc = (true, [], acc ++ depsR m u)
  | 0, n, u, acc, hl, hn, _, _ => by
    have : u = [] := List.eq_nil_of_length_eq_zero (by omega)
    subst this
    cases n with
    | zero => simp [depsF, depsR]
    | succ n => rw [depsF, if_pos rfl, if_neg (by decide)]; simp [depsR]
  | m + 1, n, u, acc, hl, hn, hc, hd => by
    obtain ⟨t, p, r, rfl, hr⟩ := head13 (u := u) (by omega)
    rw [chksR_succ, Bool.and_eq_true] at hc
    obtain ⟨hc1, hc2⟩ := hc
    rw [depsR_succ] at hd ⊢
    have hd0 := hd (cDep (t :: p :: r)) (by simp)
    simp only [cOk, Bool.and_eq_true, decide_eq_true_eq] at hc1
    obtain ⟨⟨k1, k2⟩, k3, k4⟩ := hc1
    have k1 : t = kDep := k1
    subst k1
    have t5 : ((kDep :: p :: r).drop 2).take 5 = (r.take 11).take 5 := by rw [List.take_take]; rfl
    have t6 : ((kDep :: p :: r).drop 8).take 5 = (r.take 11).drop 6 := by rw [List.drop_take]; rfl
    rw [cDep, t5, t6] at hd0
    rw [t5] at k3
    rw [t6] at k4
    obtain ⟨lo, hlo⟩ := Option.isSome_iff_exists.1 k3
    obtain ⟨hi, hhi⟩ := Option.isSome_iff_exists.1 k4
    have v1 : parV (catL ((r.take 11).take 5)) = lo := by rw [parV, hlo]; rfl
    have v2 : parV (catL ((r.take 11).drop 6)) = hi := by rw [parV, hhi]; rfl
    rw [v1, v2] at hd0
    have hp : Idn.smallB p = true := hd0.1
    have e11 : r.take 11 = (r.take 11).take 5 ++ { data := #[46, 46] } :: (r.take 11).drop 6 := by
      have h5 : 5 < (r.take 11).length := by rw [List.length_take]; omega
      have e0 := (List.take_append_drop 5 (r.take 11)).symm
      rw [List.drop_eq_getElem_cons h5] at e0
      have : (r.take 11)[5] = { data := #[46, 46] } := by
        rw [List.getElem_take]
        have : r.getD 5 { data := #[] } = kDots := k2
        rw [List.getD_eq_getElem?_getD, List.getElem?_eq_getElem (by omega)] at this
        exact this
      rw [this] at e0
      exact e0
    have hrg := eleven_back (ok := okR) hlo hhi hd0.2
    rw [← e11] at hrg
    have ed : depF (p :: r) = (p, (lo, hi), true, r.drop 11) := by
      rw [depF, nextF_hit hp]
      simp only [parR, parRE, hrg]
      rfl
    cases n with
    | zero => simp at hn
    | succ n =>
      rw [depsF, if_pos rfl, nextF_hit ((keyP_iff _ _).2 rfl), if_pos rfl, ed]
      simp only
      have hdr : List.drop 13 (kDep :: p :: r) = r.drop 11 := rfl
      rw [hdr] at hc2 hd ⊢
      simp only [List.length_cons] at hl hn
      rw [depsF_from m n (r.drop 11) _ (by rw [List.length_drop]; omega) (by rw [List.length_drop]; omega) hc2 (fun d hdm => hd d (by simp [hdm]))]
      rw [cDep, t5, t6, v1, v2, List.append_assoc]
      rfl
theorem manMay_parts {p : ByteArray} {v : Int × Int × Int} {ds : List Dp} (h : mayM p v ds = true) : Idn.smallB p = true ∧ ∀ d ∈ ds, Idn.smallB d.1 = true ∧ okR d.2.1 d.2.2 = true := by
  simp only [mayM, Bool.and_eq_true] at h
  refine ⟨h.2.1, fun d hd => ?_⟩
  obtain ⟨i, hi, rfl⟩ := List.getElem_of_mem hd
  have h2 := h.2.2.2
  rw [depsB, List.all_eq_true] at h2
  have h3 := h2 i (List.mem_range.2 hi)
  rw [dOk, dif_pos hi] at h3
  simp only [Bool.and_eq_true] at h3
  exact ⟨h3.1, h3.2.2.1⟩
theorem small_nil : Idn.smallB { data := #[] } = false := by decide +kernel
theorem man_to {ts : List ByteArray} (hh : ∀ t ∈ ts, Homo t.data.toList) {x : ByteArray × (Int × Int × Int) × List Dp} (h : manF ts = some x) : refM ts = some x := by
  unfold manF at h
  simp only at h
  split at h
  rotate_left
  · cases h
  rename_i hc
  obtain ⟨h1, h2, h3, h4⟩ := hc
  injection h with h
  subst h
  have hfine : (headF ts).1 = true := by
    cases hf : (headF ts).1
    · rw [hf, depsF_false] at h1; exact h1
    · rfl
  rw [hfine] at h1 h3 h4 ⊢
  rw [headF, Bool.and_eq_true] at hfine
  obtain ⟨g1, g2⟩ := hfine
  obtain ⟨t0, r0, rfl, ht0, e0⟩ := nextF_yes g1
  have ht0 := (keyP_iff _ _).1 ht0
  subst ht0
  obtain ⟨hs, hds⟩ := manMay_parts h4
  have hsm : (nextF Idn.smallB r0).1.2 = true := by
    cases hf : (nextF Idn.smallB r0).1.2
    · have e1 := nextF_no hf
      have : (headF (kPkg :: r0)).2.1 = { data := #[] } := by rw [headF, e0]; simp only; rw [e1]
      rw [this, small_nil] at hs
      cases hs
    · rfl
  obtain ⟨p, r1, rfl, hp, e1⟩ := nextF_yes hsm
  rw [e0] at g2
  simp only at g2
  rw [e1] at g2
  obtain ⟨t2, r2, rfl, ht2, e2⟩ := nextF_yes g2
  have ht2 := (keyP_iff _ _).1 ht2
  subst ht2
  simp only at e2
  have eh : headF (kPkg :: p :: kVer :: r2) = (true, p, r2) := by
    rw [headF, e0]
    simp only
    rw [e1]
    simp only
    rw [e2]
    rfl
  rw [eh] at h1 h2 h3 h4 ⊢
  simp only at h1 h2 h3 h4 ⊢
  have hp5 : (parseF (catL (r2.take 5))).isSome = true := by
    rw [parE] at h2
    split at h2
    · assumption
    · cases h2
  obtain ⟨v, hv⟩ := Option.isSome_iff_exists.1 hp5
  have h5 := five_more (u := r2) (fun t ht => hh t (by simp [ht])) hv
  obtain ⟨m, q1, q2, q3⟩ := depsF_to _ (r2.drop 5) [] _ (fun t ht => hh t (by have := List.mem_of_mem_drop ht; simp [this])) (Prod.ext h1 (Prod.ext h3 rfl))
  rw [List.nil_append] at q2
  replace q2 : (depsF (kPkg :: p :: kVer :: r2).length true (List.drop 5 r2) []).2.2 = depsR m (List.drop 5 r2) := q2
  rw [q2] at h4 ⊢
  rw [List.length_drop] at q1
  have hm : ((kPkg :: p :: kVer :: r2).length - 8) / 13 = m := by simp only [List.length_cons]; omega
  have hd8 : (kPkg :: p :: kVer :: r2).drop 8 = r2.drop 5 := rfl
  rw [refM, hm, hd8, if_pos]
  · rfl
  · refine ⟨⟨by simp only [List.length_cons]; omega, by simp only [List.length_cons]; omega, rfl, rfl⟩, q3, hp5, h4⟩
theorem man_from {ts : List ByteArray} {x : ByteArray × (Int × Int × Int) × List Dp} (h : refM ts = some x) : manF ts = some x := by
  rw [refM] at h
  split at h
  rotate_left
  · cases h
  rename_i hc
  obtain ⟨⟨h8, hmod, k0, k2⟩, hc, hv, hm⟩ := hc
  injection h with h
  subst h
  match ts, h8 with
  | t0 :: p :: t2 :: r2, h8 =>
  have k0 : t0 = kPkg := k0
  have k2 : t2 = kVer := k2
  subst k0 k2
  obtain ⟨hs, hds⟩ := manMay_parts hm
  have hs : Idn.smallB p = true := hs
  have hd8 : (kPkg :: p :: kVer :: r2).drop 8 = r2.drop 5 := rfl
  have eh : headF (kPkg :: p :: kVer :: r2) = (true, p, r2) := by
    rw [headF, nextF_hit ((keyP_iff _ _).2 rfl)]
    simp only
    rw [nextF_hit hs]
    simp only
    rw [nextF_hit ((keyP_iff _ _).2 rfl)]
    rfl
  generalize hmm : ((kPkg :: p :: kVer :: r2).length - 8) / 13 = m at *
  simp only [List.length_cons] at h8 hmod hmm
  rw [hd8] at hc hm hds ⊢
  have hF := depsF_from m (kPkg :: p :: kVer :: r2).length (r2.drop 5) [] (by rw [List.length_drop]; omega) (by rw [List.length_drop]; simp only [List.length_cons]; omega) hc hds
  rw [List.nil_append] at hF
  unfold manF
  rw [eh]
  simp only
  rw [hF]
  have hE : parE (catL (r2.take 5)) = 0 := by
    have hv : (parseF (catL (r2.take 5))).isSome = true := hv
    rw [parE, if_pos hv]
  rw [if_pos ⟨rfl, hE, rfl, hm⟩]
  rfl
theorem man_ref {ts : List ByteArray} (hh : ∀ t ∈ ts, Homo t.data.toList) : manF ts = refM ts := Option.ext fun x => ⟨man_to hh, man_from⟩
end Go.Proofs.YtlpgkldialmofaaGreatDoor
