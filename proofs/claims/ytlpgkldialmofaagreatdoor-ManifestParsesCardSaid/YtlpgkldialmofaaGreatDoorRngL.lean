/- Ranges' texts in plain words: two versions, two points between; no program in sight. -/
import Derived.Test.YtlpgkldialmofaaGreatDoorVerL
import Derived.Lib.CutLaws
namespace Go.Proofs.YtlpgkldialmofaaGreatDoor
open Go
/-- no two points side by side -/
def NoPair : List UInt8 → Prop
  | [] => True
  | [_] => True
  | x :: y :: r => ¬ (x = 46 ∧ y = 46) ∧ NoPair (y :: r)
theorem NoPair.tail {x : UInt8} {r : List UInt8} (h : NoPair (x :: r)) : NoPair r := by
  cases r with
  | nil => trivial
  | cons y r => exact h.2
theorem NoPair.free : ∀ {l : List UInt8}, 46 ∉ l → NoPair l
  | [], _ => trivial
  | [_], _ => trivial
  | x :: y :: r, h => ⟨fun hh => h (by simp [hh.1]), NoPair.free (fun e => h (List.mem_cons_of_mem _ e))⟩
theorem NoPair.join : ∀ {l r : List UInt8}, 46 ∉ l → r.head? ≠ some 46 → NoPair r → NoPair (l ++ 46 :: r)
  | [], [], _, _, _ => trivial
  | [], y :: r, _, hh, hr => ⟨fun e => hh (by simp [e.2]), hr⟩
  | [x], r, hl, hh, hr => ⟨fun e => hl (by simp [e.1]), NoPair.join (l := []) (by simp) hh hr⟩
  | x :: y :: l, r, hl, hh, hr => ⟨fun e => hl (by simp [e.1]), NoPair.join (l := y :: l) (fun e => hl (List.mem_cons_of_mem _ e)) hh hr⟩
/-- where two points stand first -/
theorem index_pair : ∀ {a : List UInt8} (b : List UInt8), NoPair a → a.getLast? ≠ some 46 → Lib.index (a ++ 46 :: 46 :: b) [46, 46] = (a.length : Nat)
  | [], b, _, _ => by rw [List.nil_append, Lib.index]; simp [List.isPrefixOf]
  | [x], b, _, h => by
    have hx : x ≠ 46 := fun e => h (by simp [e])
    have hp : ([46, 46] : List UInt8).isPrefixOf (x :: ([] ++ 46 :: 46 :: b)) = false := by simp [List.isPrefixOf, Ne.symm hx]
    rw [List.cons_append, Lib.index, hp, index_pair b (a := []) trivial (by simp)]
    simp
  | x :: y :: a, b, hn, h => by
    have hp : ([46, 46] : List UInt8).isPrefixOf (x :: ((y :: a) ++ 46 :: 46 :: b)) = false := by
      have := hn.1
      simp [List.isPrefixOf]
      intro h1 h2
      exact this ⟨h1.symm, h2.symm⟩
    rw [List.cons_append, Lib.index, hp, index_pair b (a := y :: a) hn.2 (by simpa using h)]
    simp
    omega
/-- two points stand side by side at one place alone -/
theorem pair_once : ∀ {p a : List UInt8} {q b : List UInt8}, NoPair p → p.getLast? ≠ some 46 → NoPair q → q.head? ≠ some 46 → a ++ 46 :: 46 :: b = p ++ 46 :: 46 :: q → a = p ∧ b = q
  | [], [], q, b, _, _, _, _, h => by simpa using h
  | [], [x], q, b, _, _, hq, hh, h => by
    simp at h
    exact absurd (show q.head? = some 46 by rw [← h.2]; rfl) hh
  | [], x :: y :: a, q, b, _, _, hq, hh, h => by
    simp at h
    obtain ⟨-, -, h⟩ := h
    exfalso
    rw [← h] at hq
    clear h hh
    induction a with
    | nil => exact hq.1 ⟨rfl, rfl⟩
    | cons z a ih => exact ih hq.tail
  | [x], [], q, b, _, hl, _, _, h => by
    simp at h
    exact absurd (by simp [h.1]) hl
  | x :: y :: p, [], q, b, hn, _, _, _, h => by
    simp at h
    exact absurd ⟨h.1.symm, h.2.1.symm⟩ hn.1
  | x :: p, z :: a, q, b, hn, hl, hq, hh, h => by
    simp only [List.cons_append, List.cons.injEq] at h
    obtain ⟨rfl, h⟩ := h
    have hl' : p.getLast? ≠ some 46 := by
      cases p with
      | nil => simp
      | cons y p => simpa using hl
    obtain ⟨rfl, rfl⟩ := pair_once hn.tail hl' hq hh h
    exact ⟨rfl, rfl⟩
theorem dec_first (n : Nat) : (Lib.decDigits n).head? ≠ some 46 := fun h => dec_point n (List.mem_of_mem_head? (by rw [h]; rfl))
theorem dec_last (n : Nat) : (Lib.decDigits n).getLast? ≠ some 46 := fun h => dec_point n (List.mem_of_getLast? h)
theorem text_noPair (a b c : Nat) : NoPair (textF a b c) := by
  unfold textF
  refine NoPair.join (dec_point a) ?_ (NoPair.join (dec_point b) (dec_first c) (NoPair.free (dec_point c)))
  rw [head_app (dec_ne b)]
  exact dec_first b
theorem text_first (a b c : Nat) : (textF a b c).head? ≠ some 46 := by
  unfold textF
  rw [head_app (dec_ne a)]
  exact dec_first a
theorem text_last (a b c : Nat) : (textF a b c).getLast? ≠ some 46 := by
  have e : textF a b c = (Lib.decDigits a ++ 46 :: (Lib.decDigits b ++ [46])) ++ Lib.decDigits c := by simp [textF]
  have hl := dec_last c
  rw [e, List.getLast?_append]
  cases h : (Lib.decDigits c).getLast? with
  | none => exact absurd (List.getLast?_eq_none_iff.1 h) (dec_ne c)
  | some v => rw [h] at hl; simpa using hl
/-- the two parts of a row of bytes, cut at the first two points -/
theorem cut_text (a b c : Nat) (r : List UInt8) : Lib.cut (textF a b c ++ 46 :: 46 :: r) [46, 46] = (textF a b c, r, true) := by
  unfold Lib.cut
  rw [index_pair r (text_noPair a b c) (text_last a b c)]
  have hd : (textF a b c ++ 46 :: 46 :: r).drop ((textF a b c).length + 2) = r := by
    rw [← List.drop_drop, List.drop_left]; rfl
  simp [hd]
/-- the range of a text: both its parts' versions -/
def bothO (ok : Int × Int × Int → Int × Int × Int → Bool) (x y : Option (Int × Int × Int)) : Option ((Int × Int × Int) × (Int × Int × Int)) :=
  match x, y with
  | some lo, some hi => if ok lo hi then some (lo, hi) else none
  | _, _ => none
def rangeF (ok : Int × Int × Int → Int × Int × Int → Bool) (l : List UInt8) : Option ((Int × Int × Int) × (Int × Int × Int)) := bothO ok (parseF (Lib.cut l [46, 46]).1) (parseF (Lib.cut l [46, 46]).2.1)
def bothF (ok : Int × Int × Int → Int × Int × Int → Bool) (a b : List UInt8) : Option ((Int × Int × Int) × (Int × Int × Int)) := bothO ok (parseF a) (parseF b)
theorem drop_pair {l : List UInt8} {i : Nat} (h : Lib.occAt l [46, 46] i = true) : l.drop i = 46 :: 46 :: l.drop (i + 2) := by
  unfold Lib.occAt at h
  rw [← List.drop_drop]
  cases hd : l.drop i with
  | nil => rw [hd] at h; simp [List.isPrefixOf] at h
  | cons x t =>
    cases t with
    | nil => rw [hd] at h; simp [List.isPrefixOf] at h
    | cons y r =>
      rw [hd] at h
      simp [List.isPrefixOf] at h
      rw [← h.1, ← h.2]
      rfl
theorem cut_back2 (l : List UInt8) : (Lib.cut l [46, 46]).2.1 = [] ∨ l = (Lib.cut l [46, 46]).1 ++ 46 :: 46 :: (Lib.cut l [46, 46]).2.1 := by
  unfold Lib.cut
  rcases Lib.index_spec l [46, 46] with ⟨h, -⟩ | ⟨i, hi, hle, ho, -⟩
  · left; rw [h]; rfl
  · right
    rw [hi, if_pos (by omega)]
    simp only [Int.toNat_natCast]
    have := drop_pair ho
    show l = l.take i ++ 46 :: 46 :: l.drop (i + 2)
    rw [← this, List.take_append_drop]
theorem parse_nil : parseF [] = none := by decide +kernel
theorem range_both (ok : Int × Int × Int → Int × Int × Int → Bool) (a b : List UInt8) : rangeF ok (a ++ 46 :: 46 :: b) = bothF ok a b := by
  cases hp : parseF a with
  | some lo =>
    obtain ⟨-, ha⟩ := text_parse hp
    have hc := cut_text lo.1.toNat lo.2.1.toNat lo.2.2.toNat b
    rw [← ha] at hc
    unfold rangeF bothF
    rw [hc]
  | none =>
    unfold rangeF bothF
    rw [hp]
    cases h1 : parseF (Lib.cut (a ++ 46 :: 46 :: b) [46, 46]).1 with
    | none => rfl
    | some lo =>
      cases h2 : parseF (Lib.cut (a ++ 46 :: 46 :: b) [46, 46]).2.1 with
      | none => rfl
      | some hi =>
        exfalso
        rcases cut_back2 (a ++ 46 :: 46 :: b) with h3 | h3
        · rw [h3, parse_nil] at h2; cases h2
        · obtain ⟨-, e1⟩ := text_parse h1
          obtain ⟨-, e2⟩ := text_parse h2
          have := pair_once (by rw [e1]; exact text_noPair _ _ _) (by rw [e1]; exact text_last _ _ _) (by rw [e2]; exact text_noPair _ _ _) (by rw [e2]; exact text_first _ _ _) h3
          rw [← this.1, hp] at h1
          cases h1
end Go.Proofs.YtlpgkldialmofaaGreatDoor
