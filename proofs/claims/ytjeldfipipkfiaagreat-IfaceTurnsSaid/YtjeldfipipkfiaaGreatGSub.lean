/- The contract of slices.BinarySearch over texts that rise; no condition but that they rise. -/
import Derived.Test.YtjeldfipipkfiaaGreatGKind
import Derived.StillTailTactics
import Derived.Test.YtjeldfipipkfiaaGreatGRefK
namespace Go.Proofs.YtjeldfipipkfiaaGreat
open Go.RowKit
set_option linter.unusedSimpArgs false
set_option linter.unusedVariables false
theorem less_irrefl : ∀ x : List UInt8, Op.bytesLess x x = false
  | [] => rfl
  | a :: x => by
    have : ¬ a < a := fun e => by have := UInt8.lt_iff_toNat_lt.1 e; omega
    simp [Op.bytesLess, less_irrefl x, this]
theorem less_trans : ∀ x y z : List UInt8, Op.bytesLess x y = true → Op.bytesLess y z = true → Op.bytesLess x z = true
  | _, [], _, h, _ => by simp [Op.bytesLess] at h
  | _, _ :: _, [], _, h => by simp [Op.bytesLess] at h
  | [], _ :: _, _ :: _, _, _ => rfl
  | a :: x, b :: y, c :: z, h1, h2 => by
    simp only [Op.bytesLess, Bool.or_eq_true, Bool.and_eq_true, decide_eq_true_eq, beq_iff_eq] at h1 h2 ⊢
    rcases h1 with h1 | ⟨rfl, h1⟩ <;> rcases h2 with h2 | ⟨rfl, h2⟩
    · exact .inl (by rw [UInt8.lt_iff_toNat_lt] at *; omega)
    · exact .inl h1
    · exact .inl h2
    · exact .inr ⟨rfl, less_trans x y z h1 h2⟩
theorem ltB_trans {a b c : ByteArray} (h1 : ltB a b = true) (h2 : ltB b c = true) : ltB a c = true := less_trans _ _ _ h1 h2
theorem ltB_irrefl (a : ByteArray) : ltB a a = false := less_irrefl _
end Go.Proofs.YtjeldfipipkfiaaGreat
namespace Go.Proofs.YtjeldfipipkfiaaGreat
open Go.RowKit
set_option linter.unusedSimpArgs false
set_option linter.unusedVariables false
def zeroTy : Ty := .mk 0 ⟨#[]⟩ 0 ⟨#[]⟩ ⟨#[]⟩ [] []
def ofT (t : Ty) (s : ByteArray) : Ty := if memB s t.names = true then t.subs.getD (firstOf t.names s) zeroTy else zeroTy
structure RowsOk (t : Ty) : Prop where
  rise : riseB t.names = true
  len : t.names.length ≤ t.subs.length
  small : t.subs.length ≤ 1000
end Go.Proofs.YtjeldfipipkfiaaGreat
namespace Go.Proofs.YtjeldfipipkfiaaGreat
open Go.RowKit
set_option linter.unusedSimpArgs false
set_option linter.unusedVariables false
def coverL (r : Ty → Ty → Bool) (a : Ty) : List ByteArray → List Ty → Bool
  | s :: ns, y :: ys => memB s a.names && r (ofT a s) y && coverL r a ns ys
  | _, _ => true
end Go.Proofs.YtjeldfipipkfiaaGreat
namespace Go.Proofs.YtjeldfipipkfiaaGreat
open Go.RowKit
set_option linter.unusedSimpArgs false
set_option linter.unusedVariables false
theorem deepL_mem : ∀ {l : List Ty} {s : Ty}, s ∈ l → deepT s ≤ deepL l
  | [], _, h => by cases h
  | x :: l, s, h => by
    rw [deepL]
    rcases List.mem_cons.1 h with rfl | h
    · omega
    · have := deepL_mem h; omega
def argsB (r : Ty → Ty → Bool) (xs ys : List Ty) (n : Nat) : Bool := (List.range n).all fun i => r (ys.getD i zeroTy) (xs.getD i zeroTy)
def funcB (r : Ty → Ty → Bool) (xs ys : List Ty) : Bool :=
  decide (xs.length = ys.length) && (r (xs.getD (xs.length - 1) zeroTy) (ys.getD (xs.length - 1) zeroTy) && argsB r xs ys (xs.length - 1))
def subF : Nat → Ty → Ty → Bool
  | 0, _, _ => false
  | n + 1, a, b =>
    if a.kind = b.kind then
      if a.kind = 4 then subF n (a.subs.getD 0 zeroTy) (b.subs.getD 0 zeroTy)
      else if a.kind = 5 then coverL (subF n) a b.names b.subs
      else if a.kind = 6 then coverL (fun x y => subF n y x) b a.names a.subs
      else if a.kind = 7 then funcB (subF n) a.subs b.subs
      else alikeT a b
    else false
end Go.Proofs.YtjeldfipipkfiaaGreat
namespace Go.Proofs.YtjeldfipipkfiaaGreat
open Go.RowKit
set_option linter.unusedSimpArgs false
set_option linter.unusedVariables false
def SubB (a b : Ty) : Bool := PlainB a && (PlainB b && subF 32 a b)
end Go.Proofs.YtjeldfipipkfiaaGreat
