/- The contract of sub.bound: what bndF tells; the premise: both types are allowed. -/
import Derived.Test.YtalpmjmifcofeaaBoundP
import Derived.Test.YtalpmjmifcofeaaBoundV
namespace Go.Proofs.Ytalpmjmifcofeaa
open Go.RowKit
set_option linter.unusedSimpArgs false
set_option linter.unusedVariables false
def bndF : Nat → Bool → Ty → Ty → Option Ty
  | 0, _, _, _ => none
  | n + 1, up, a, b =>
    if a.kind = b.kind then
      if a.kind = 4 ∨ a.kind = 7 then partsR (bndF n) up a b
      else if a.kind = 5 then (if up = true then some (joinR (bndF n true) a b) else eitherR (bndF n false) a b)
      else if a.kind = 6 then (if up = true then eitherR (bndF n true) a b else if (joinR (bndF n false) a b).names.length = 0 then none else some (joinR (bndF n false) a b))
      else leafR a b
    else none
theorem bound_c : ∀ (n : Nat) (up : Bool) (a b : Ty), mayT a = true → mayT b = true → deepT a ≤ n → deepT b ≤ n → BoundAt a b up (bndF n up a b)
  | 0, _, a, _, _, _, hd, _ => by have := deep_bound a; omega
  | n + 1, up, a, b, ma, mb, da, db => by
    have IH : ∀ v x y, x ∈ a.subs → y ∈ b.subs → BoundAt x y v (bndF n v x y) := fun v x y hx hy =>
      bound_c n v x y (may_child ma hx) (may_child mb hy) (by have := deep_child hx; omega) (by have := deep_child hy; omega)
    unfold bndF
    by_cases hk : a.kind = b.kind
    · rw [if_pos hk]
      by_cases h47 : a.kind = 4 ∨ a.kind = 7
      · rw [if_pos h47]
        rcases h47 with h | h
        · exact bound_parts4 (bndF n) a b up h (hk ▸ h) (may_small ma) fun x y v hx hy => IH v x y hx hy
        · exact bound_parts7 (bndF n) a b up h (hk ▸ h) (may_small ma) fun x y v hx hy => IH v x y hx hy
      · rw [if_neg h47]
        by_cases h5 : a.kind = 5
        · rw [if_pos h5]
          have hb5 : b.kind = 5 := hk ▸ h5
          cases up
          · rw [if_neg (by simp)]
            exact bound_eith5 (bndF n false) a b h5 hb5 (may_rows ma (.inl h5)) (may_rows mb (.inl hb5)) (may_small ma) (may_small mb) fun x y hx hy => IH false x y hx hy
          · rw [if_pos rfl]
            exact bound_rec (bndF n true) a b h5 hb5 (may_rows ma (.inl h5)) (may_rows mb (.inl hb5)) (may_small ma) fun x y hx hy => IH true x y hx hy
        · rw [if_neg h5]
          by_cases h6 : a.kind = 6
          · rw [if_pos h6]
            have hb6 : b.kind = 6 := hk ▸ h6
            cases up
            · rw [if_neg (by simp)]
              exact bound_var (bndF n false) a b h6 hb6 (may_rows ma (.inr h6)) (may_rows mb (.inr hb6)) (may_small ma) fun x y hx hy => IH false x y hx hy
            · rw [if_pos rfl]
              exact bound_eith6 (bndF n true) a b h6 hb6 (may_rows ma (.inr h6)) (may_rows mb (.inr hb6)) (may_small ma) (may_small mb) fun x y hx hy => IH true x y hx hy
          · rw [if_neg h6]
            exact bound_leaf a b up hk (fun h => h47 (.inl h)) h5 h6 (fun h => h47 (.inr h))
    · rw [if_neg hk]
      exact bound_diff a b up hk
end Go.Proofs.Ytalpmjmifcofeaa
