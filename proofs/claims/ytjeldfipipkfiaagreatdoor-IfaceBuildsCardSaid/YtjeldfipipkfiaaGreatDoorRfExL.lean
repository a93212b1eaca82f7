/- Plain laws behind merlonref08.Expand and All: the budgets of a walk, and what the environment lacks. No condition. -/
import Derived.Test.YtjeldfipipkfiaaGreatDoorRfThr
namespace Go.Proofs.YtjeldfipipkfiaaGreatDoor
open Go.RowKit
set_option linter.unusedSimpArgs false
set_option linter.unusedVariables false
def fitE (x : Ty) (most depth : Int) : Prop := manyT x ≤ most ∧ deepT x ≤ depth
structure ExK (xs : List Ty) (most depth : Int) (k : Nat) (n : Int) : Prop where
  num : n = 1 + manyL (xs.take k)
  le : n ≤ most
  deep : ∀ s ∈ xs.take k, deepT s ≤ depth - 1
theorem ExK.zero {xs : List Ty} {most depth : Int} (h : 1 ≤ most) : ExK xs most depth 0 1 := ⟨by simp [manyL], h, by simp⟩
theorem ExK.pos {xs : List Ty} {most depth n : Int} {k : Nat} (h : ExK xs most depth k n) : 1 ≤ n := by
  have := manyL_pos (xs.take k)
  have := h.num
  omega
theorem ExK.next {xs : List Ty} {most depth n : Int} {k : Nat} (h : ExK xs most depth k n) (hk : k < xs.length) (hf : fitE xs[k] (most - n) (depth - 1)) : ExK xs most depth (k + 1) (n + manyT xs[k]) := by
  obtain ⟨rfl, h2, h3⟩ := h
  refine ⟨by rw [manyL_succ hk]; omega, by have := hf.1; omega, fun s hs => ?_⟩
  rw [List.take_succ_eq_append_getElem hk, List.mem_append, List.mem_singleton] at hs
  rcases hs with hs | rfl
  · exact h3 s hs
  · exact hf.2
theorem many_mk (a : Int) (b : ByteArray) (c : Int) (d e : ByteArray) (f : List ByteArray) (xs : List Ty) : manyT (.mk a b c d e f xs) = 1 + manyL xs := by rw [manyT_eq]; rfl
theorem deep_mk (a : Int) (b : ByteArray) (c : Int) (d e : ByteArray) (f : List ByteArray) (xs : List Ty) : deepT (.mk a b c d e f xs) = deepL xs + 1 := by rw [deepT_eq]; rfl
theorem ExK.stop {xs : List Ty} {most depth n : Int} {k : Nat} (h : ExK xs most depth k n) (hk : k < xs.length) (hf : ¬ fitE xs[k] (most - n) (depth - 1)) (a : Int) (b : ByteArray) (c : Int) (d e : ByteArray) (f : List ByteArray) : ¬ fitE (.mk a b c d e f xs) most depth := by
  rintro ⟨h1, h2⟩
  rw [many_mk] at h1
  rw [deep_mk] at h2
  have h6 := manyL_succ hk
  have h7 := manyL_take xs (k + 1)
  have h8 := deepL_mem (List.getElem_mem hk)
  have := h.num
  exact hf ⟨by omega, by omega⟩
theorem ExK.last {xs : List Ty} {most depth n : Int} (h : ExK xs most depth xs.length n) (hd : 1 ≤ depth) (a : Int) (b : ByteArray) (c : Int) (d e : ByteArray) (f : List ByteArray) : fitE (.mk a b c d e f xs) most depth ∧ n = manyT (.mk a b c d e f xs) := by
  have h1 := h.num
  have h2 := h.deep
  rw [List.take_length] at h1 h2
  have := deepL_le (d := depth - 1) (by omega) (l := xs) h2
  have := h.le
  exact ⟨⟨by rw [many_mk]; omega, by rw [deep_mk]; omega⟩, by rw [many_mk]; omega⟩
theorem fit_small {x : Ty} {most depth : Int} (h : most < 1 ∨ depth < 1) : ¬ fitE x most depth := fun hf => by
  have := many_pos x
  have := (deep_bound x).1
  have := hf.1
  have := hf.2
  omega
def RexRes (x : Ty) (most depth : Int) (y : Ty) (n : Int) : Prop := (fitE x most depth ∧ y = x ∧ n = manyT x) ∨ (¬ fitE x most depth ∧ y = zT ∧ n = 0)
def lackB (E : Env) (l : List Ty) : Bool := l.any fun t => !hadB E t
theorem lack_all {E : Env} {l : List Ty} : l.all (hadB E) = !lackB E l := by
  rw [lackB, List.not_any_eq_all_not]
  congr 1
  funext x
  simp
theorem lack_hit {E : Env} {l : List Ty} {k : Nat} (hk : k < l.length) (h : hadB E l[k] = false) : lackB E l = true := by
  rw [lackB, List.any_eq_true]
  exact ⟨_, List.getElem_mem hk, by rw [h]; rfl⟩
theorem lack_miss {E : Env} {l : List Ty} (h : ∀ j (hj : j < l.length), hadB E l[j] = true) : lackB E l = false := by
  rw [lackB, List.any_eq_false]
  intro x hx
  obtain ⟨k, hk, rfl⟩ := List.getElem_of_mem hx
  rw [h k hk]
  decide
theorem compl_yes {E : Env} {t : Ty} (h1 : lackB E (localsT t) = false) (h2 : ∀ k (h : k < E.m.decls.length), reachF E.m.decls t k = true → E.m.decls[k].kind = 3 → lackB E (localsT E.m.decls[k].ty) = false) : complB E t = true := by
  rw [complB, lack_all, h1, Bool.not_false, Bool.true_and, List.all_eq_true]
  intro s hs
  have hr := ((mentF_law E.m.decls t).2 s).1 hs
  rw [nextD_of, declOf_at]
  cases hf : findD E.m.decls s with
  | none => rfl
  | some k =>
    obtain ⟨hk, -, -⟩ := findD_name hf
    simp only [Option.bind_some, List.getElem?_eq_getElem hk]
    show (if E.m.decls[k].kind = 3 then localsT E.m.decls[k].ty else []).all (hadB E) = true
    by_cases h3 : E.m.decls[k].kind = 3
    · rw [if_pos h3, lack_all, h2 k hk (reachF_iff.2 ⟨s, hr, hf⟩) h3]; rfl
    · rw [if_neg h3]; rfl
theorem compl_no1 {E : Env} {t : Ty} (h1 : lackB E (localsT t) = true) : complB E t = false := by
  rw [complB, lack_all, h1]; rfl
theorem compl_no2 {E : Env} {t : Ty} {k : Nat} (hk : k < E.m.decls.length) (hr : reachF E.m.decls t k = true) (h3 : E.m.decls[k].kind = 3) (hl : lackB E (localsT E.m.decls[k].ty) = true) : complB E t = false := by
  obtain ⟨s, hs, hf⟩ := reachF_iff.1 hr
  cases hc : complB E t with
  | false => rfl
  | true =>
    rw [complB, Bool.and_eq_true, List.all_eq_true, List.all_eq_true] at hc
    have := hc.2 s (((mentF_law E.m.decls t).2 s).2 hs)
    rw [nextD_of, declOf_at, hf] at this
    simp only [Option.bind_some, List.getElem?_eq_getElem hk] at this
    have this : (if E.m.decls[k].kind = 3 then localsT E.m.decls[k].ty else []).all (hadB E) = true := this
    rw [if_pos h3, lack_all, hl] at this
    cases this
end Go.Proofs.YtjeldfipipkfiaaGreatDoor
