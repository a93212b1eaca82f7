/- merlonlaw13.WitnessAlike returns true. -/
import Derived.Test.YtjeldfipipkfiaaGreatDoorGUpW
import Derived.Test.YtjeldfipipkfiaaGreatDoorGUsD
import Derived.Test.YtjeldfipipkfiaaGreatDoorGOf
namespace Go.Proofs.YtjeldfipipkfiaaGreatDoor
open Go.RowKit
set_option linter.unusedSimpArgs false
set_option linter.unusedVariables false
theorem envI_few {w : World} {B : Nat} {a : List If} {A : Option Addr} {c : Nat} (h : IfsAt w B A a) (hc : a.length ≤ c) (hf : FewI a = true) : EnvI w B a A c := by
  rw [FewI, Bool.and_eq_true, decide_eq_true_eq, List.all_eq_true] at hf
  obtain ⟨h1, h2⟩ := hf
  refine ⟨h, by omega, fun x hx => ?_, fun x hx => ?_, hc⟩
  · have := h2 x hx
    simp only [fewX, Bool.and_eq_true, decide_eq_true_eq] at this
    omega
  · have := h2 x hx
    simp only [fewX, Bool.and_eq_true, decide_eq_true_eq] at this
    omega
end Go.Proofs.YtjeldfipipkfiaaGreatDoor
