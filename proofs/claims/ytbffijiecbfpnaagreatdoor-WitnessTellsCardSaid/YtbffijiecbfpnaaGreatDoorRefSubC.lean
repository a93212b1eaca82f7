/- One case of the contract of merlonref09.Sub. -/
import Derived.Test.YtbffijiecbfpnaaGreatDoorRefSubD
import Derived.Test.YtbffijiecbfpnaaGreatDoorRefSubE
import Derived.Test.YtbffijiecbfpnaaGreatDoorRefSubF
import Derived.Test.YtbffijiecbfpnaaGreatDoorRefSubG
import Derived.Test.YtbffijiecbfpnaaGreatDoorRefSubH
namespace Go.Proofs.YtbffijiecbfpnaaGreatDoor
open Go.RowKit
set_option linter.unusedSimpArgs false
set_option linter.unusedVariables false
theorem refSub_c : ∀ n : Nat, RefSubC n
  | 0, a, b, _, _, _, _, _, _, _, _, _, hd, _ => by have := deep_bound a; omega
  | n + 1, a, b, cs, cs', B, w, ha, hb, hB, ma, mb, da, db => by
    have HI := Lib.hid (refSub_c n)
    by_cases hk : a.kind = b.kind
    · by_cases h4 : a.kind = 4
      · exact refSub_4 n HI a b cs cs' B w ha hb hB ma mb da db hk h4
      by_cases h5 : a.kind = 5
      · exact refSub_5 n HI a b cs cs' B w ha hb hB ma mb da db hk h4 h5
      by_cases h6 : a.kind = 6
      · exact refSub_6 n HI a b cs cs' B w ha hb hB ma mb da db hk h4 h5 h6
      by_cases h7 : a.kind = 7
      · exact refSub_7 n HI a b cs cs' B w ha hb hB ma mb da db hk h4 h5 h6 h7
      exact refSub_0 n HI a b cs cs' B w ha hb hB ma mb da db hk h4 h5 h6 h7
    · exact refSub_n n HI a b cs cs' B w ha hb hB ma mb da db hk
end Go.Proofs.YtbffijiecbfpnaaGreatDoor
