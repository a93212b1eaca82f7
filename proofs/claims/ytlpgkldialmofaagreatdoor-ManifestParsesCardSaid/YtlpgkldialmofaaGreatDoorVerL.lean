/- Versions' texts in plain words: digits, parts, points; no program in sight. -/
import Derived.Lib.SplitLaws
import Derived.Lib.ItoaNum
namespace Go.Proofs.YtlpgkldialmofaaGreatDoor
open Go
/-- a digit -/
def digB (c : UInt8) : Bool := decide (48 ≤ c.toNat) && decide (c.toNat ≤ 57)
/-- the number that a row of digits says, behind another one -/
def valF (acc : Nat) (l : List UInt8) : Nat := l.foldl (fun a c => 10 * a + (c.toNat - 48)) acc
theorem valF_nil (a : Nat) : valF a [] = a := rfl
theorem valF_cons (a : Nat) (c : UInt8) (l : List UInt8) : valF a (c :: l) = valF (10 * a + (c.toNat - 48)) l := by unfold valF; rw [List.foldl_cons]
theorem valF_app (a : Nat) (l m : List UInt8) : valF a (l ++ m) = valF (valF a l) m := by simp [valF, List.foldl_append]
theorem valF_ge : ∀ (l : List UInt8) (a : Nat), a ≤ valF a l
  | [], a => Nat.le_refl _
  | c :: l, a => by
    rw [valF_cons]
    have := valF_ge l (10 * a + (c.toNat - 48))
    omega
theorem valF_lt : ∀ (l : List UInt8) (a : Nat), (∀ c ∈ l, digB c = true) → valF a l < (a + 1) * 10 ^ l.length
  | [], a, _ => by simp [valF_nil]
  | c :: l, a, h => by
    have hc := h c (by simp)
    simp [digB] at hc
    have ih := valF_lt l (10 * a + (c.toNat - 48)) (fun x hx => h x (by simp [hx]))
    rw [valF_cons, List.length_cons, Nat.pow_succ]
    refine Nat.lt_of_lt_of_le ih ?_
    rw [Nat.mul_comm (10 ^ l.length) 10, ← Nat.mul_assoc]
    exact Nat.mul_le_mul_right _ (by omega)
/-- a part, read; below 0: it is none -/
def numF (l : List UInt8) : Int := if l = [] ∨ 9 < l.length ∨ (1 < l.length ∧ l.head? = some 48) ∨ ¬ (∀ c ∈ l, digB c = true) then -1 else valF 0 l
theorem byte_dig {d : Nat} (h : d < 10) : (UInt8.ofNat (48 + d)).toNat = 48 + d := by
  have : ∀ n : Fin 10, (UInt8.ofNat (48 + n.1)).toNat = 48 + n.1 := by decide
  exact this ⟨d, h⟩
theorem dig_byte {c : UInt8} (h : digB c = true) : UInt8.ofNat (48 + (c.toNat - 48)) = c := by
  simp [digB] at h
  rw [show 48 + (c.toNat - 48) = c.toNat by omega]
  exact UInt8.ofNat_toNat
theorem dec_small {n : Nat} (h : n < 10) : Lib.decDigits n = [UInt8.ofNat (48 + n)] := Lib.decDigits_one h
theorem dec_big {n : Nat} (h : ¬ n < 10) : Lib.decDigits n = Lib.decDigits (n / 10) ++ [UInt8.ofNat (48 + n % 10)] := by rw [Lib.decDigits, dif_neg h]
theorem dec_dig : ∀ (n : Nat) (c : UInt8), c ∈ Lib.decDigits n → digB c = true := by
  intro n
  induction n using Nat.strongRecOn with
  | _ n ih =>
    intro c hc
    by_cases h : n < 10
    · rw [dec_small h] at hc
      simp at hc; subst hc
      simp [digB]; omega
    · rw [dec_big h] at hc
      rcases List.mem_append.1 hc with hc | hc
      · exact ih _ (by omega) c hc
      · simp at hc; subst hc
        simp [digB]; omega
theorem dec_val (n : Nat) : valF 0 (Lib.decDigits n) = n := by
  induction n using Nat.strongRecOn with
  | _ n ih =>
    by_cases h : n < 10
    · rw [dec_small h, valF_cons, valF_nil, byte_dig h]; omega
    · rw [dec_big h, valF_app, ih _ (by omega), valF_cons, valF_nil, byte_dig (Nat.mod_lt n (by omega))]; omega
theorem dec_ne (n : Nat) : Lib.decDigits n ≠ [] := by
  by_cases h : n < 10
  · rw [dec_small h]; simp
  · rw [dec_big h]; simp
theorem head_app {l m : List UInt8} (h : l ≠ []) : (l ++ m).head? = l.head? := by
  obtain ⟨x, t, rfl⟩ := List.exists_cons_of_ne_nil h
  rfl
theorem dec_head : ∀ (n : Nat), 0 < n → (Lib.decDigits n).head? ≠ some 48 := by
  intro n
  induction n using Nat.strongRecOn with
  | _ n ih =>
    intro h0
    by_cases h : n < 10
    · rw [dec_small h]
      have : ∀ n : Fin 10, 0 < n.1 → ([UInt8.ofNat (48 + n.1)] : List UInt8).head? ≠ some 48 := by decide
      exact this ⟨n, h⟩ h0
    · rw [dec_big h, head_app (dec_ne _)]
      exact ih _ (by omega) (by omega)
theorem dec_length : ∀ (k n : Nat), n < 10 ^ (k + 1) → (Lib.decDigits n).length ≤ k + 1
  | 0, n, h => by rw [dec_small (by simpa using h)]; simp
  | k + 1, n, h => by
    by_cases h1 : n < 10
    · rw [dec_small h1]; simp
    · rw [dec_big h1, List.length_append]
      have := dec_length k (n / 10) (by rw [Nat.pow_succ] at h; omega)
      simp; omega
theorem dec_len9 {n : Nat} (h : n ≤ 999999999) : (Lib.decDigits n).length ≤ 9 := dec_length 8 n (by omega)
theorem num_dec {n : Nat} (h : n ≤ 999999999) : numF (Lib.decDigits n) = n := by
  rw [numF, if_neg, dec_val]
  rintro (h1 | h1 | ⟨h1, h2⟩ | h1)
  · exact dec_ne n h1
  · have := dec_len9 h; omega
  · by_cases h0 : n < 10
    · rw [dec_small h0] at h1; simp at h1
    · exact dec_head n (by omega) h2
  · exact h1 (dec_dig n)
theorem dec_of_val : ∀ (k : Nat) (l : List UInt8), l.length = k → l ≠ [] → (∀ c ∈ l, digB c = true) → ¬ (1 < l.length ∧ l.head? = some 48) → Lib.decDigits (valF 0 l) = l := by
  intro k
  induction k with
  | zero => intro l hl hn; exact absurd (List.eq_nil_of_length_eq_zero hl) hn
  | succ k ih =>
    intro l hl hn hd hz
    obtain ⟨r, c, rfl⟩ : ∃ r c, l = r ++ [c] := ⟨l.dropLast, l.getLast hn, (List.dropLast_concat_getLast hn).symm⟩
    have hc := hd c (by simp)
    have hc' := hc
    simp [digB] at hc'
    rw [valF_app, valF_cons, valF_nil]
    by_cases hr : r = []
    · subst hr
      rw [valF_nil, dec_small (by omega)]
      simp [dig_byte hc]
    · have hh : (r ++ [c]).head? = r.head? := head_app hr
      rw [hh] at hz
      have hpos : 0 < r.length := List.length_pos_iff.2 hr
      have hne48 : r.head? ≠ some 48 := fun e => hz ⟨by simp; omega, e⟩
      have h1 : 1 ≤ valF 0 r := by
        obtain ⟨x, t, rfl⟩ := List.exists_cons_of_ne_nil hr
        rw [valF_cons]
        have hx := hd x (by simp)
        simp [digB] at hx
        have hx48 : x.toNat ≠ 48 := fun e => hne48 (by simp; exact UInt8.toNat_inj.1 e)
        have := valF_ge t (10 * 0 + (x.toNat - 48))
        omega
      rw [dec_big (by omega), show (10 * valF 0 r + (c.toNat - 48)) / 10 = valF 0 r by omega, show (10 * valF 0 r + (c.toNat - 48)) % 10 = c.toNat - 48 by omega, dig_byte hc]
      rw [ih r (by simpa using hl) hr (fun x hx => hd x (by simp [hx])) (fun h => hne48 h.2)]
theorem dec_num {l : List UInt8} {n : Nat} (h : numF l = n) : l = Lib.decDigits n ∧ n ≤ 999999999 := by
  unfold numF at h
  split at h
  · omega
  · rename_i hc
    simp only [not_or, Classical.not_not] at hc
    obtain ⟨h1, h2, h3, h4⟩ := hc
    have hv : valF 0 l = n := by omega
    refine ⟨by rw [← hv, dec_of_val _ l rfl h1 h4 h3], ?_⟩
    have := valF_lt l 0 h4
    have hp : 10 ^ l.length ≤ 10 ^ 9 := Nat.pow_le_pow_right (by omega) (by omega)
    rw [hv] at this
    omega
theorem num_range (l : List UInt8) : -1 ≤ numF l ∧ numF l ≤ 999999999 := by
  by_cases h : numF l = -1
  · omega
  · have h0 : 0 ≤ numF l := by unfold numF at h ⊢; split <;> rename_i hh <;> first | (exfalso; exact h (if_pos hh)) | omega
    have := (dec_num (l := l) (n := (numF l).toNat) (by omega)).2
    omega
/-- a text cut at its points -/
def cutF (l : List UInt8) : List (List UInt8) := Lib.splitK [46] 0 (Lib.count l [46]) l
theorem index_none : ∀ {a : List UInt8}, 46 ∉ a → Lib.index a [46] = -1
  | [], _ => by simp [Lib.index]
  | c :: a, h => by
    have hc : c ≠ 46 := fun e => h (by simp [e])
    have hp : ([46] : List UInt8).isPrefixOf (c :: a) = false := by simp [List.isPrefixOf, Ne.symm hc]
    rw [Lib.index, hp, index_none (fun e => h (by simp [e]))]
    rfl
theorem index_at : ∀ {a : List UInt8} (r : List UInt8), 46 ∉ a → Lib.index (a ++ 46 :: r) [46] = (a.length : Nat)
  | [], r, _ => by rw [List.nil_append, Lib.index]; simp [List.isPrefixOf]
  | c :: a, r, h => by
    have hc : c ≠ 46 := fun e => h (by simp [e])
    have hp : ([46] : List UInt8).isPrefixOf (c :: (a ++ 46 :: r)) = false := by simp [List.isPrefixOf, Ne.symm hc]
    rw [List.cons_append, Lib.index, hp, index_at r (fun e => h (by simp [e]))]
    simp
theorem cut_three {a b c : List UInt8} (ha : 46 ∉ a) (hb : 46 ∉ b) (hc : 46 ∉ c) : cutF (a ++ 46 :: (b ++ 46 :: c)) = [a, b, c] := by
  unfold cutF
  have e1 : (a ++ 46 :: (b ++ 46 :: c)).drop (a.length + 1) = b ++ 46 :: c := by
    rw [← List.drop_drop, List.drop_left]; rfl
  have e2 : (b ++ 46 :: c).drop (b.length + 1) = c := by
    rw [← List.drop_drop, List.drop_left]; rfl
  have i1 := index_at (b ++ 46 :: c) ha
  have i2 := index_at c hb
  have hcount : Lib.count (a ++ 46 :: (b ++ 46 :: c)) [46] = 2 := by
    rw [Lib.count_one]
    simp [List.count_append, List.count_eq_zero.2 ha, List.count_eq_zero.2 hb, List.count_eq_zero.2 hc]
  rw [hcount, Lib.splitK, i1, if_neg (by simp), Lib.splitK]
  simp only [Int.toNat_natCast, List.length_singleton, Nat.add_zero, e1]
  rw [i2, if_neg (by simp), Lib.splitK]
  simp only [Int.toNat_natCast, e2]
  rw [List.take_left, List.take_left]
theorem first46 : ∀ {l : List UInt8}, 46 ∈ l → ∃ a r, l = a ++ 46 :: r ∧ 46 ∉ a
  | c :: l, h => by
    by_cases hc : c = 46
    · subst hc; exact ⟨[], l, rfl, by simp⟩
    · obtain ⟨a, r, rfl, hn⟩ := first46 (l := l) (by simpa [Ne.symm hc] using h)
      exact ⟨c :: a, r, rfl, by simp [Ne.symm hc, hn]⟩
theorem splitK_head (k : Nat) (l : List UInt8) : ∃ p q, Lib.splitK [46] 0 k l = p :: q := by
  cases k with
  | zero => exact ⟨_, _, rfl⟩
  | succ k => rw [Lib.splitK]; split <;> exact ⟨_, _, rfl⟩
theorem splitK_join : ∀ (k : Nat) (l : List UInt8), (Lib.splitK [46] 0 k l).head? = (Lib.splitK [46] 0 k l).head? ∧ ∃ p q, Lib.splitK [46] 0 k l = p :: q ∧ l = p ++ q.flatMap (fun x => 46 :: x)
  | 0, l => ⟨rfl, l, [], rfl, by simp⟩
  | k + 1, l => by
    refine ⟨rfl, ?_⟩
    rw [Lib.splitK]
    split
    · exact ⟨l, [], rfl, by simp⟩
    · rename_i h
      have hi : ¬ Lib.index l [46] = -1 := fun e => h (beq_iff_eq.2 e)
      have hm : 46 ∈ l := Classical.byContradiction fun e => hi (index_none e)
      obtain ⟨a, r, rfl, hn⟩ := first46 hm
      rw [index_at r hn]
      simp only [Int.toNat_natCast, List.length_singleton, Nat.add_zero]
      have e1 : (a ++ 46 :: r).drop (a.length + 1) = r := by
        rw [← List.drop_drop, List.drop_left]; rfl
      rw [e1, List.take_left]
      obtain ⟨-, p, q, e2, e3⟩ := splitK_join k r
      exact ⟨a, p :: q, by rw [e2], by rw [List.flatMap_cons, e3]; simp⟩
theorem cut_back {l a b c : List UInt8} (h : cutF l = [a, b, c]) : l = a ++ 46 :: (b ++ 46 :: c) := by
  obtain ⟨-, p, q, e1, e2⟩ := splitK_join (Lib.count l [46]) l
  unfold cutF at h
  rw [h] at e1
  injection e1 with e1 e3
  subst e1 e3
  rw [e2]; simp
/-- three parts may be a version's -/
def okF (a b c : Int) : Bool := decide (1 ≤ a) && decide (a ≤ 999999999) && decide (0 ≤ b) && decide (b ≤ 999999999) && decide (0 ≤ c) && decide (c ≤ 999999999)
/-- the version of a text -/
def parseF (l : List UInt8) : Option (Int × Int × Int) := match cutF l with
  | [a, b, c] => if okF (numF a) (numF b) (numF c) then some (numF a, numF b, numF c) else none
  | _ => none
/-- a version's text -/
def textF (a b c : Nat) : List UInt8 := Lib.decDigits a ++ 46 :: (Lib.decDigits b ++ 46 :: Lib.decDigits c)
theorem dec_point (n : Nat) : 46 ∉ Lib.decDigits n := fun h => by
  have := dec_dig n 46 h
  revert this; decide
theorem okF_iff {a b c : Int} : okF a b c = true ↔ (1 ≤ a ∧ a ≤ 999999999) ∧ (0 ≤ b ∧ b ≤ 999999999) ∧ (0 ≤ c ∧ c ≤ 999999999) := by
  simp [okF]; omega
theorem parse_text {a b c : Nat} (h : okF a b c = true) : parseF (textF a b c) = some ((a : Int), (b : Int), (c : Int)) := by
  have ho := okF_iff.1 h
  rw [parseF, textF, cut_three (dec_point _) (dec_point _) (dec_point _)]
  simp only
  rw [num_dec (by omega), num_dec (by omega), num_dec (by omega), if_pos h]
theorem text_parse {l : List UInt8} {v : Int × Int × Int} (h : parseF l = some v) : okF v.1 v.2.1 v.2.2 = true ∧ l = textF v.1.toNat v.2.1.toNat v.2.2.toNat := by
  unfold parseF at h
  split at h
  · rename_i a b c hc
    split at h
    · rename_i ho
      injection h with h
      subst h
      refine ⟨ho, ?_⟩
      have hb := okF_iff.1 ho
      rw [cut_back hc]
      have ea := (dec_num (l := a) (n := (numF a).toNat) (by omega)).1
      have eb := (dec_num (l := b) (n := (numF b).toNat) (by omega)).1
      have ec := (dec_num (l := c) (n := (numF c).toNat) (by omega)).1
      simp only [textF]
      rw [← ea, ← eb, ← ec]
    · cases h
  · cases h
theorem text_len {a b c : Nat} (h : okF a b c = true) : (textF a b c).length ≤ 29 := by
  have ho := okF_iff.1 h
  have h1 := dec_len9 (n := a) (by omega)
  have h2 := dec_len9 (n := b) (by omega)
  have h3 := dec_len9 (n := c) (by omega)
  simp [textF]; omega
/-- the example's scan -/
def scanF : Nat → Nat → Nat → Nat → List UInt8 → Option (Nat × Nat × Nat)
  | _, a, b, c, [] => some (a, b, c)
  | k, a, b, c, x :: r =>
    if x = 46 then (if 2 ≤ k then none else scanF (k + 1) a b c r)
    else if digB x = true ∧ (if k = 0 then a else if k = 1 then b else c) ≤ 99999999 then
      (if k = 0 then scanF k (10 * a + (x.toNat - 48)) b c r else if k = 1 then scanF k a (10 * b + (x.toNat - 48)) c r else scanF k a b (10 * c + (x.toNat - 48)) r)
    else none
def refParseF (l : List UInt8) : Option (Int × Int × Int) := if 40 < l.length then none else match scanF 0 0 0 0 l with
  | none => none
  | some (a, b, c) => if okF a b c = true ∧ textF a b c = l then some ((a : Int), (b : Int), (c : Int)) else none
theorem dig_ne {x : UInt8} (h : digB x = true) : x ≠ 46 := by
  rintro rfl
  revert h; decide
theorem scan0 : ∀ (l r : List UInt8) (a b c : Nat), (∀ x ∈ l, digB x = true) → valF a l ≤ 999999999 → scanF 0 a b c (l ++ r) = scanF 0 (valF a l) b c r
  | [], _, _, _, _, _, _ => rfl
  | x :: l, r, a, b, c, h, hv => by
    have hx := h x (by simp)
    have hg := valF_ge l (10 * a + (x.toNat - 48))
    rw [valF_cons] at hv
    rw [List.cons_append, scanF, if_neg (dig_ne hx), if_pos ⟨hx, by simp; omega⟩, if_pos rfl, scan0 l r _ b c (fun y hy => h y (by simp [hy])) hv, valF_cons]
theorem scan1 : ∀ (l r : List UInt8) (a b c : Nat), (∀ x ∈ l, digB x = true) → valF b l ≤ 999999999 → scanF 1 a b c (l ++ r) = scanF 1 a (valF b l) c r
  | [], _, _, _, _, _, _ => rfl
  | x :: l, r, a, b, c, h, hv => by
    have hx := h x (by simp)
    have hg := valF_ge l (10 * b + (x.toNat - 48))
    rw [valF_cons] at hv
    rw [List.cons_append, scanF, if_neg (dig_ne hx), if_pos ⟨hx, by simp; omega⟩, if_neg (by decide), if_pos rfl, scan1 l r a _ c (fun y hy => h y (by simp [hy])) hv, valF_cons]
theorem scan2 : ∀ (l r : List UInt8) (a b c : Nat), (∀ x ∈ l, digB x = true) → valF c l ≤ 999999999 → scanF 2 a b c (l ++ r) = scanF 2 a b (valF c l) r
  | [], _, _, _, _, _, _ => rfl
  | x :: l, r, a, b, c, h, hv => by
    have hx := h x (by simp)
    have hg := valF_ge l (10 * c + (x.toNat - 48))
    rw [valF_cons] at hv
    rw [List.cons_append, scanF, if_neg (dig_ne hx), if_pos ⟨hx, by simp; omega⟩, if_neg (by decide), if_neg (by decide), scan2 l r a b _ (fun y hy => h y (by simp [hy])) hv, valF_cons]
theorem scan_text {a b c : Nat} (h : okF a b c = true) : scanF 0 0 0 0 (textF a b c) = some (a, b, c) := by
  have ho := okF_iff.1 h
  rw [textF, scan0 _ _ _ _ _ (dec_dig a) (by rw [dec_val]; omega), dec_val, scanF, if_pos rfl, if_neg (by decide),
    scan1 _ _ _ _ _ (dec_dig b) (by rw [dec_val]; omega), dec_val, scanF, if_pos rfl, if_neg (by decide)]
  have := scan2 (Lib.decDigits c) [] a b 0 (dec_dig c) (by rw [dec_val]; omega)
  rw [List.append_nil] at this
  rw [this, dec_val]; rfl
/-- both read the same -/
theorem ref_parse (l : List UInt8) : refParseF l = parseF l := by
  cases hp : parseF l with
  | none =>
    cases hr : refParseF l with
    | none => rfl
    | some v =>
      unfold refParseF at hr
      split at hr
      · cases hr
      · split at hr
        · cases hr
        · rename_i a b c hs
          split at hr
          · rename_i hh
            have := parse_text hh.1
            rw [hh.2, hp] at this
            cases this
          · cases hr
  | some v =>
    obtain ⟨ho, hl⟩ := text_parse hp
    obtain ⟨a, b, c⟩ := v
    have hb := okF_iff.1 ho
    simp only at ho hl hb
    have ho' : okF ((a.toNat : Nat) : Int) ((b.toNat : Nat) : Int) ((c.toNat : Nat) : Int) = true := by
      rw [show ((a.toNat : Nat) : Int) = a by omega, show ((b.toNat : Nat) : Int) = b by omega, show ((c.toNat : Nat) : Int) = c by omega]; exact ho
    have hlen := text_len ho'
    rw [← hl] at hlen
    unfold refParseF
    rw [if_neg (by omega)]
    have hs := scan_text ho'
    rw [← hl] at hs
    rw [hs]
    simp only
    rw [if_pos ⟨ho', hl.symm⟩, show ((a.toNat : Nat) : Int) = a by omega, show ((b.toNat : Nat) : Int) = b by omega, show ((c.toNat : Nat) : Int) = c by omega]
end Go.Proofs.YtlpgkldialmofaaGreatDoor
