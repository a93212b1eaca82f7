/- What lex.Tokens and the example's own Tokens tell, in plain words: a text scanned byte by byte. -/
import Derived.Test.YtlpgkldialmofaaGreatDoorLex1
namespace Go.Proofs.YtlpgkldialmofaaGreatDoor
open Go.RowKit
set_option linter.unusedSimpArgs false
set_option linter.unusedVariables false
/-- the bytes that are a sign by themselves -/
def signB (c : UInt8) : Bool := [123, 125, 40, 41, 91, 93, 60, 62, 44, 58, 46, 61].contains (c.toNat)
/-- kind and length of the token that a row of bytes begins with; (0, 0): none -/
def firstF : List UInt8 → Nat × Nat
  | [] => (0, 0)
  | x :: r =>
    if smallC x then (1, runN wordC (x :: r))
    else if greatC x then (2, runN wordC (x :: r))
    else if digitC x then (3, runN digitC (x :: r))
    else if x.toNat = 45 ∧ (r.head?.map UInt8.toNat) = some 62 then (4, 2)
    else if x.toNat = 46 ∧ (r.head?.map UInt8.toNat) = some 46 then (4, 2)
    else if signB x then (4, 1)
    else (0, 0)
theorem firstF_cons (x : UInt8) (r : List UInt8) : firstF (x :: r) =
    if smallC x then (1, runN wordC (x :: r))
    else if greatC x then (2, runN wordC (x :: r))
    else if digitC x then (3, runN digitC (x :: r))
    else if x.toNat = 45 ∧ (r.head?.map UInt8.toNat) = some 62 then (4, 2)
    else if x.toNat = 46 ∧ (r.head?.map UInt8.toNat) = some 46 then (4, 2)
    else if signB x then (4, 1)
    else (0, 0) := rfl
theorem runN_cons (p : UInt8 → Bool) (x : UInt8) (r : List UInt8) : runN p (x :: r) = if p x then 1 + runN p r else 0 := by
  unfold runN
  rw [List.takeWhile_cons]
  split <;> simp <;> omega
theorem small_word {c : UInt8} (h : smallC c = true) : wordC c = true := by simp [wordC, h]
theorem great_word {c : UInt8} (h : greatC c = true) : wordC c = true := by simp [wordC, h]
theorem digit_word {c : UInt8} (h : digitC c = true) : wordC c = true := by simp [wordC, h]
theorem firstF_le (l : List UInt8) : (firstF l).2 ≤ l.length := by
  cases l with
  | nil => simp [firstF]
  | cons x r =>
    have h1 := runN_le wordC (x :: r)
    have h2 := runN_le digitC (x :: r)
    rw [firstF_cons]
    have ht : ∀ (y : Nat), (r.head?.map UInt8.toNat) = some y → 2 ≤ (x :: r).length := by
      intro y hy
      cases r with
      | nil => simp at hy
      | cons z r => simp
    (repeat' split) <;> first | exact h1 | exact h2 | (rename_i h; exact ht _ h.2) | simp
theorem firstF_kind (l : List UInt8) (h : (firstF l).2 ≠ 0) : (firstF l).1 = 1 ∨ (firstF l).1 = 2 ∨ (firstF l).1 = 3 ∨ (firstF l).1 = 4 := by
  cases l with
  | nil => simp [firstF] at h
  | cons x r =>
    revert h
    rw [firstF_cons]
    (repeat' split) <;> simp
/-- a token -/
structure Tok where
  kind : Nat
  at_ : Nat
  text : ByteArray
def Tok.cells (t : Tok) : List Value := [.int .i64 (t.kind : Nat), .int .i64 (t.at_ : Nat), .string t.text]
def Tok.val (t : Tok) : Value := .agg #[.int .i64 (t.kind : Nat), .int .i64 (t.at_ : Nat), .string t.text]
/-- one step at a row of bytes: how far, and which kind (0: nothing told); none: nothing stands there -/
def stepF : List UInt8 → Option (Nat × Nat)
  | [] => none
  | x :: r =>
    if blankC x then some (0, 1)
    else if x.toNat = 35 then some (0, runN lineC (x :: r))
    else if (firstF (x :: r)).2 = 0 then none
    else some (firstF (x :: r))
theorem stepF_cons (x : UInt8) (r : List UInt8) : stepF (x :: r) =
    if blankC x then some (0, 1)
    else if x.toNat = 35 then some (0, runN lineC (x :: r))
    else if (firstF (x :: r)).2 = 0 then none
    else some (firstF (x :: r)) := rfl
theorem stepF_pos {l : List UInt8} {k n : Nat} (h : stepF l = some (k, n)) : 1 ≤ n ∧ n ≤ l.length := by
  cases l with
  | nil => simp [stepF] at h
  | cons x r =>
    rw [stepF_cons] at h
    split at h
    · simp at h; simp; omega
    split at h
    · rename_i hx
      simp at h
      have := runN_le lineC (x :: r)
      rw [runN_cons, show lineC x = true from by simp [lineC, hx]] at this h
      simp at h this ⊢
      omega
    split at h
    · cases h
    · rename_i hn
      have := firstF_le (x :: r)
      have e : firstF (x :: r) = (k, n) := by simpa using h
      rw [e] at this hn
      simp at this hn ⊢
      omega
/-- the scan from place k on, behind the tokens ts -/
def scan (s : ByteArray) : Nat → Nat → List Tok → List Tok × Option Nat
  | 0, _, ts => (ts, none)
  | f + 1, k, ts =>
    if k < s.size then
      match stepF (s.data.toList.drop k) with
      | none => (ts, some k)
      | some (0, n) => scan s f (k + n) ts
      | some (kd + 1, n) => scan s f (k + n) (ts ++ [⟨kd + 1, k, s.extract k (k + n)⟩])
    else (ts, none)
def scanAll (s : ByteArray) : List Tok × Option Nat := scan s s.size 0 []
/-- the scan is at place k, behind the tokens ts -/
def AtScan (s : ByteArray) (k : Nat) (ts : List Tok) : Prop := k ≤ s.size ∧ ∃ f, s.size ≤ f + k ∧ scanAll s = scan s f k ts
theorem AtScan.start (s : ByteArray) : AtScan s 0 [] := ⟨Nat.zero_le _, s.size, by omega, rfl⟩
theorem len_data (s : ByteArray) : s.data.toList.length = s.size := by show s.data.toList.length = s.data.size; rw [Array.length_toList]
theorem AtScan.skip {s : ByteArray} {k n : Nat} {ts : List Tok} (h : AtScan s k ts) (hk : k < s.size) (hs : stepF (s.data.toList.drop k) = some (0, n)) : AtScan s (k + n) ts := by
  obtain ⟨-, f, hf, e⟩ := h
  have hp := stepF_pos hs
  rw [List.length_drop, len_data] at hp
  cases f with
  | zero => omega
  | succ f =>
    refine ⟨by omega, f, by omega, ?_⟩
    rw [e, scan, if_pos hk, hs]
theorem AtScan.tok {s : ByteArray} {k n kd : Nat} {ts : List Tok} (h : AtScan s k ts) (hk : k < s.size) (hs : stepF (s.data.toList.drop k) = some (kd, n)) (hd : kd ≠ 0) : AtScan s (k + n) (ts ++ [⟨kd, k, s.extract k (k + n)⟩]) := by
  obtain ⟨-, f, hf, e⟩ := h
  have hp := stepF_pos hs
  rw [List.length_drop, len_data] at hp
  cases f with
  | zero => omega
  | succ f =>
    cases kd with
    | zero => exact absurd rfl hd
    | succ kd =>
      refine ⟨by omega, f, by omega, ?_⟩
      rw [e, scan, if_pos hk, hs]
theorem AtScan.bad {s : ByteArray} {k : Nat} {ts : List Tok} (h : AtScan s k ts) (hk : k < s.size) (hs : stepF (s.data.toList.drop k) = none) : scanAll s = (ts, some k) := by
  obtain ⟨-, f, hf, e⟩ := h
  cases f with
  | zero => omega
  | succ f => rw [e, scan, if_pos hk, hs]
theorem AtScan.done {s : ByteArray} {k : Nat} {ts : List Tok} (h : AtScan s k ts) (hk : ¬ k < s.size) : scanAll s = (ts, none) := by
  obtain ⟨-, f, hf, e⟩ := h
  rw [e]
  cases f with
  | zero => rfl
  | succ f => rw [scan, if_neg hk]
theorem drop_extract (s : ByteArray) (k : Nat) : (s.extract k s.size).data.toList = s.data.toList.drop k := by
  rw [ByteArray.data_extract, Array.toList_extract, List.extract_eq_take_drop]
  rw [List.take_of_length_le]
  rw [List.length_drop, len_data]
  exact Nat.le_refl _
end Go.Proofs.YtlpgkldialmofaaGreatDoor
