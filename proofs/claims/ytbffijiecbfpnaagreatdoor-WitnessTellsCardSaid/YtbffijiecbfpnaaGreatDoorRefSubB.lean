/- The contract of merlonref09.Sub: the same answer as sub.below's, of allowed types. -/
import Derived.Test.YtbffijiecbfpnaaGreatDoorRefSub
namespace Go.Proofs.YtbffijiecbfpnaaGreatDoor
open Go.RowKit
set_option linter.unusedSimpArgs false
set_option linter.unusedVariables false
theorem ofI_hit {l : List ByteArray} {s : ByteArray} (h : memB s l = true) : ofI l s = (firstOf l s : Int) := by rw [ofI, if_pos h]
theorem ofI_miss {l : List ByteArray} {s : ByteArray} (h : memB s l = false) : ofI l s = -1 := by rw [ofI, if_neg (by simp [h])]
theorem ofT_at {t : Ty} {s : ByteArray} (h : memB s t.names = true) (hl : firstOf t.names s < t.subs.length) : ofT t s = t.subs[firstOf t.names s] := by
  rw [ofT, if_pos h, getD_at hl]
/-- what merlonref09.Sub does at types no deeper than n -/
def RefSubC (n : Nat) : Prop := ∀ (a b : Ty) (cs cs' : Array Value) (B : Nat) (w : World), TyC w B a cs → TyC w B b cs' → B ≤ w.heap.size →
    mayT a = true → mayT b = true → deepT a ≤ n → deepT b ≤ n →
    Calls Tryz.prog 60 #[.agg cs, .agg cs'] w fun e w' => e = .returned (.bool (subF n a b)) ∧ Below w.heap.size w w'
end Go.Proofs.YtbffijiecbfpnaaGreatDoor
