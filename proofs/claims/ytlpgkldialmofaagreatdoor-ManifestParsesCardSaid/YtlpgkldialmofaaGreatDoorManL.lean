/- The manifest of a row of tokens' texts: the program's way and the document's tell the same. Plain Lean; no condition but that each text is without a point, or of points alone. -/
import Derived.Test.YtlpgkldialmofaaGreatDoorParM1
import Derived.Test.YtlpgkldialmofaaGreatDoorParSt
namespace Go.Proofs.YtlpgkldialmofaaGreatDoor
open Go.RowKit
set_option linter.unusedSimpArgs false
set_option linter.unusedVariables false
/-- of one sort: points alone, or none -/
def Homo (l : List UInt8) : Prop := l ≠ [] ∧ ∃ b : Bool, ∀ c ∈ l, (c == 46) = b
/-- pieces that take turns -/
def Alt : List (List UInt8) → Prop
  | [] => True
  | a :: ps => Homo a ∧ (∀ x ∈ a, ∀ c, ps.flatten.head? = some c → (c == 46) ≠ (x == 46)) ∧ Alt ps
theorem catL_nil : catL [] = [] := rfl
theorem catL_app (ts us : List ByteArray) : catL (ts ++ us) = catL ts ++ catL us := by simp [catL]
theorem homo_one {a b : List UInt8} {s : Bool} {c : UInt8} (h : ∀ c ∈ a, (c == 46) = s) (hc : c ∈ a) : (c == 46) = s := h c hc
theorem take_piece : ∀ (ts : List ByteArray) (a rest : List UInt8), (∀ t ∈ ts, Homo t.data.toList) → Homo a → (∀ x ∈ a, ∀ c, rest.head? = some c → (c == 46) ≠ (x == 46)) → catL ts = a ++ rest →
    ∃ k, 1 ≤ k ∧ k ≤ ts.length ∧ catL (ts.take k) = a ∧ catL (ts.drop k) = rest
  | [], a, rest, _, ha, _, h => by
    rw [catL_nil] at h
    have := List.append_eq_nil_iff.1 h.symm
    exact absurd this.1 ha.1
  | t :: ts, a, rest, ht, ha, hs, h => by
    obtain ⟨hne, b, hb⟩ := ht t (by simp)
    obtain ⟨hane, s, hsa⟩ := ha
    rw [catL_cons] at h
    rcases List.append_eq_append_iff.1 h with ⟨x, hx, hy⟩ | ⟨x, hx, hy⟩
    · -- a = t ++ x, catL ts = x ++ rest
      by_cases hxn : x = []
      · subst hxn
        refine ⟨1, Nat.le_refl _, by simp, ?_, ?_⟩
        · rw [List.take_succ_cons, List.take_zero, catL_cons, catL_nil]; simpa using hx.symm
        · simpa using hy
      · have hxh : Homo x := ⟨hxn, s, fun c hc => hsa c (by rw [hx]; simp [hc])⟩
        obtain ⟨k, h1, h2, h3, h4⟩ := take_piece ts x rest (fun t' h' => ht t' (by simp [h'])) hxh (fun y hy' c hc => hs y (by rw [hx]; simp [hy']) c hc) hy
        refine ⟨k + 1, by omega, by simpa using h2, ?_, by simpa using h4⟩
        rw [List.take_succ_cons, catL_cons, h3, hx]
    · -- t = a ++ x, rest = x ++ catL ts
      by_cases hxn : x = []
      · subst hxn
        refine ⟨1, Nat.le_refl _, by simp, ?_, ?_⟩
        · rw [List.take_succ_cons, List.take_zero, catL_cons, catL_nil]; simpa using hx
        · simpa using hy.symm
      · exfalso
        obtain ⟨y, a', rfl⟩ : ∃ y a', a = y :: a' := by cases a with | nil => exact absurd rfl hane | cons y a' => exact ⟨y, a', rfl⟩
        obtain ⟨c, x', rfl⟩ : ∃ c x', x = c :: x' := by cases x with | nil => exact absurd rfl hxn | cons c x' => exact ⟨c, x', rfl⟩
        have e1 := hb y (by rw [hx]; simp)
        have e2 := hb c (by rw [hx]; simp)
        exact hs y (by simp) c (by rw [hy]; rfl) (e2.trans e1.symm)
theorem pieces_le : ∀ (ps : List (List UInt8)) (ts : List ByteArray), (∀ t ∈ ts, Homo t.data.toList) → Alt ps → catL ts = ps.flatten → ps.length ≤ ts.length ∧ (ts.length ≤ ps.length → ts.map (·.data.toList) = ps)
  | [], ts, ht, _, h => by
    refine ⟨Nat.zero_le _, fun hl => ?_⟩
    have : ts = [] := List.eq_nil_of_length_eq_zero (by simpa using hl)
    subst this; rfl
  | a :: ps, ts, ht, ⟨ha, hs, hp⟩, h => by
    obtain ⟨k, h1, h2, h3, h4⟩ := take_piece ts a ps.flatten ht ha hs (by simpa using h)
    obtain ⟨g1, g2⟩ := pieces_le ps (ts.drop k) (fun t h' => ht t (List.mem_of_mem_drop h')) hp h4
    rw [List.length_drop] at g1 g2
    refine ⟨by simp; omega, fun hl => ?_⟩
    simp only [List.length_cons] at hl
    obtain rfl : k = 1 := by omega
    have g3 := g2 (by omega)
    cases ts with
    | nil => simp at h2
    | cons t r =>
      rw [List.take_succ_cons, List.take_zero, catL_cons, catL_nil, List.append_nil] at h3
      rw [List.drop_succ_cons, List.drop_zero] at g3
      rw [List.map_cons, h3, g3]
theorem homo_dec (n : Nat) : Homo (Lib.decDigits n) := ⟨dec_ne n, false, fun c hc => by
  have h := dec_point n
  rw [beq_eq_false_iff_ne]
  rintro rfl; exact h hc⟩
theorem homo_dot : Homo [46] := ⟨by simp, true, fun c hc => by simp at hc; subst hc; rfl⟩
theorem homo_dots : Homo [46, 46] := ⟨by simp, true, fun c hc => by simp at hc; subst hc; rfl⟩
theorem dec_cons (n : Nat) : ∃ c r, Lib.decDigits n = c :: r ∧ (c == 46) = false := by
  cases h : Lib.decDigits n with
  | nil => exact absurd h (dec_ne n)
  | cons c r =>
    refine ⟨c, r, rfl, ?_⟩
    rw [beq_eq_false_iff_ne]
    rintro rfl
    exact dec_point n (by rw [h]; simp)
theorem alt_dec {n : Nat} {p : List UInt8} {ps : List (List UInt8)} (h : p.head? = some 46) (ha : Alt (p :: ps)) : Alt (Lib.decDigits n :: p :: ps) := by
  refine ⟨homo_dec n, fun x hx c hc => ?_, ha⟩
  have h1 : (x == 46) = false := by
    rw [beq_eq_false_iff_ne]; rintro rfl; exact dec_point n hx
  have h2 : c = 46 := by
    cases p with
    | nil => cases h
    | cons y p =>
      simp at h hc
      rw [← hc, h]
  rw [h1, h2]; decide
theorem alt_dot {n : Nat} {p : List UInt8} {ps : List (List UInt8)} (hp : p = [46] ∨ p = [46, 46]) (ha : Alt (Lib.decDigits n :: ps)) : Alt (p :: Lib.decDigits n :: ps) := by
  have hh : Homo p := by rcases hp with rfl | rfl <;> first | exact homo_dot | exact homo_dots
  refine ⟨hh, fun x hx c hc => ?_, ha⟩
  obtain ⟨y, r, e, e2⟩ := dec_cons n
  have h2 : c = y := by
    rw [List.flatten_cons, e] at hc
    simpa using hc.symm
  have h1 : (x == 46) = true := by rcases hp with rfl | rfl <;> (simp at hx; subst hx; rfl)
  rw [h1, h2, e2]; decide
theorem alt_last (n : Nat) : Alt [Lib.decDigits n] := ⟨homo_dec n, fun x hx c hc => by simp at hc, trivial⟩
def vPieces (a b c : Nat) (r : List (List UInt8)) : List (List UInt8) := Lib.decDigits a :: [46] :: Lib.decDigits b :: [46] :: Lib.decDigits c :: r
theorem v_alt (a b c : Nat) : Alt (vPieces a b c []) := alt_dec rfl (alt_dot (.inl rfl) (alt_dec rfl (alt_dot (.inl rfl) (alt_last c))))
theorem v_flat (a b c : Nat) : (vPieces a b c []).flatten = textF a b c := by simp [vPieces, textF]
theorem r_alt (a b c d e f : Nat) : Alt (vPieces a b c ([46, 46] :: vPieces d e f [])) :=
  alt_dec rfl (alt_dot (.inl rfl) (alt_dec rfl (alt_dot (.inl rfl) (alt_dec rfl (alt_dot (.inr rfl) (v_alt d e f))))))
theorem r_flat (a b c d e f : Nat) : (vPieces a b c ([46, 46] :: vPieces d e f [])).flatten = textF a b c ++ 46 :: 46 :: textF d e f := by simp [vPieces, textF]
/-- a version's tokens are five -/
theorem five {ts : List ByteArray} (ht : ∀ t ∈ ts, Homo t.data.toList) {v : Int × Int × Int} (h : parseF (catL ts) = some v) : 5 ≤ ts.length := by
  obtain ⟨-, e⟩ := text_parse h
  exact (pieces_le _ ts ht (v_alt _ _ _) (by rw [v_flat]; exact e)).1
theorem ok_both {ok : Int × Int × Int → Int × Int × Int → Bool} {a b : Option (Int × Int × Int)} {lo hi : Int × Int × Int} (h : bothO ok a b = some (lo, hi)) : a = some lo ∧ b = some hi ∧ ok lo hi = true := by
  unfold bothO at h
  split at h
  · rename_i x y
    split at h
    · rename_i hk
      simp at h
      obtain ⟨rfl, rfl⟩ := h
      exact ⟨rfl, rfl, hk⟩
    · cases h
  · cases h
/-- a range's tokens are eleven, the sixth one its two points -/
theorem eleven {ok : Int × Int × Int → Int × Int × Int → Bool} {ts : List ByteArray} (ht : ∀ t ∈ ts, Homo t.data.toList) (hl : ts.length ≤ 11) {lo hi : Int × Int × Int} (h : rangeF ok (catL ts) = some (lo, hi)) :
    ts.length = 11 ∧ (ts.drop 5).head? = some { data := #[46, 46] } ∧ parseF (catL (ts.take 5)) = some lo ∧ parseF (catL (ts.drop 6)) = some hi ∧ ok lo hi = true := by
  obtain ⟨h1, h2, h3⟩ := ok_both h
  rcases cut_back2 (catL ts) with e | e
  · rw [e, parse_nil] at h2; cases h2
  obtain ⟨-, e1⟩ := text_parse h1
  obtain ⟨-, e2⟩ := text_parse h2
  generalize lo.1.toNat = a, lo.2.1.toNat = b, lo.2.2.toNat = c, hi.1.toNat = d, hi.2.1.toNat = e', hi.2.2.toNat = f at e1 e2
  rw [e1] at h1
  rw [e2] at h2
  rw [e1, e2] at e
  obtain ⟨g1, g2⟩ := pieces_le _ ts ht (r_alt a b c d e' f) (by rw [r_flat]; exact e)
  have hn : (vPieces a b c ([46, 46] :: vPieces d e' f [])).length = 11 := rfl
  rw [hn] at g1 g2
  have g3 := g2 hl
  have h11 : ts.length = 11 := by omega
  match ts, h11 with
  | [t0, t1, t2, t3, t4, t5, t6, t7, t8, t9, t10], _ =>
  simp only [List.map_cons, List.map_nil, vPieces, List.cons.injEq, and_true] at g3
  obtain ⟨q0, q1, q2, q3, q4, q5, q6, q7, q8, q9, q10⟩ := g3
  refine ⟨rfl, ?_, ?_, ?_, h3⟩
  · have : t5 = { data := #[46, 46] } := by
      apply ByteArray.ext
      apply Array.toList_inj.1
      exact q5
    rw [this]; rfl
  · rw [← h1]
    congr 1
    simp [catL, q0, q1, q2, q3, q4, textF]
  · rw [← h2]
    congr 1
    simp [catL, q6, q7, q8, q9, q10, textF]
theorem eleven_back {ok : Int × Int × Int → Int × Int × Int → Bool} {a b : List ByteArray} {lo hi : Int × Int × Int} (h1 : parseF (catL a) = some lo) (h2 : parseF (catL b) = some hi) (h3 : ok lo hi = true) : rangeF ok (catL (a ++ { data := #[46, 46] } :: b)) = some (lo, hi) := by
  have e : catL (a ++ { data := #[46, 46] } :: b) = catL a ++ 46 :: 46 :: catL b := by rw [catL_app, catL_cons]; rfl
  rw [e, range_both, bothF, h1, h2, bothO, h3]; rfl
end Go.Proofs.YtlpgkldialmofaaGreatDoor
