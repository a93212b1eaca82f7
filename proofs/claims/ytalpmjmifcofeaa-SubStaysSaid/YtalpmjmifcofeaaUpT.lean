/- The types of the document's example. -/
import Derived.Test.YtalpmjmifcofeaaBoundL
namespace Go.Proofs.Ytalpmjmifcofeaa
def tInt : Ty := .mk 1 { data := #[] } 0 { data := #[] } { data := #[] } [] []
def tText : Ty := .mk 2 { data := #[] } 0 { data := #[] } { data := #[] } [] []
def tA : Ty := .mk 5 { data := #[] } 0 { data := #[] } { data := #[] } [{ data := #[97] }, { data := #[98] }] [tInt, tText]
def tB : Ty := .mk 5 { data := #[] } 0 { data := #[] } { data := #[] } [{ data := #[97] }] [tInt]
theorem sub_ab : SubB tA tB = true := by decide +kernel
theorem sub_ba : SubB tB tA = false := by decide +kernel
theorem sub_00 : SubB zeroTy zeroTy = false := by decide +kernel
theorem plain_a : PlainB tA = true := by decide +kernel
theorem plain_b : PlainB tB = true := by decide +kernel
theorem may_a : mayT tA = true := by decide +kernel
theorem may_b : mayT tB = true := by decide +kernel
theorem join_ab : bothL leafR tB tA.names tA.subs = [({ data := #[97] }, tInt)] := by
  have h1 : memB ({ data := #[97] } : ByteArray) tB.names = true := by decide +kernel
  have h2 : memB ({ data := #[98] } : ByteArray) tB.names = false := by decide +kernel
  have h3 : ofT tB ({ data := #[97] } : ByteArray) = tInt := by rw [ofT, if_pos h1]; rfl
  have h4 : leafR tInt tInt = some tInt := if_pos (by decide +kernel)
  show (if memB ({ data := #[97] } : ByteArray) tB.names then _ else _) ++ ((if memB ({ data := #[98] } : ByteArray) tB.names then _ else _) ++ []) = _
  rw [h1, h2, h3, h4]
  rfl
end Go.Proofs.Ytalpmjmifcofeaa
