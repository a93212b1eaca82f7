/- The contract of sub.Join at the document's example. -/
import Derived.Test.YtalpmjmifcofeaaWhole
import Derived.Test.YtalpmjmifcofeaaUpT
import Derived.Test.YtalpmjmifcofeaaBoundR
namespace Go.Proofs.Ytalpmjmifcofeaa
open Go.RowKit
set_option linter.unusedSimpArgs false
set_option linter.unusedVariables false
theorem rows_a : RowsOk tA := ⟨by decide +kernel, by decide +kernel, by decide +kernel⟩
theorem rows_b : RowsOk tB := ⟨by decide +kernel, by decide +kernel, by decide +kernel⟩
theorem leaf_at (up : Bool) : ∀ x y, x ∈ tA.subs → y ∈ tB.subs → BoundAt x y up (leafR x y) := by
  intro x y hx hy
  have hx' : x = tInt ∨ x = tText := by simpa [tA, Ty.subs] using hx
  have hy' : y = tInt := by simpa [tB, Ty.subs] using hy
  subst hy'
  rcases hx' with rfl | rfl
  · exact bound_leaf tInt tInt up rfl (by decide) (by decide) (by decide) (by decide)
  · have : leafR tText tInt = none := if_neg (by decide +kernel)
    rw [this]
    exact bound_diff tText tInt up (by decide)
theorem bound_ab : BoundAt tA tB true (some tB) := by
  have h := bound_rec leafR tA tB rfl rfl rows_a rows_b (by decide +kernel) (leaf_at true)
  have e : joinR leafR tA tB = tB := by
    rw [joinR, join_ab]
    rfl
  rwa [e] at h
theorem join_c (cs cs' : Array Value) (B : Nat) (w : World) (ha : TyC w B tA cs) (hb : TyC w B tB cs') (hB : B ≤ w.heap.size) :
    Calls Try.prog 16 #[.agg cs, .agg cs'] w fun e w' => (∃ cs'', e = .returned (.tuple #[.agg cs'', .bool true]) ∧ TyM w' (Fresh w w') tB cs'') ∧ Below w.heap.size w w' :=
  join_yes tA tB tB cs cs' B w ha hb hB plain_a plain_b bound_ab may_b
end Go.Proofs.Ytalpmjmifcofeaa
