/- merlonlaw14.up returns true; the premise: the library's number MaxLen reads as some int. -/
import Derived.Test.YtlpgkldialmofaaGreatDoorParM2
import Derived.Test.YtlpgkldialmofaaGreatDoorUpV
namespace Go.Proofs.YtlpgkldialmofaaGreatDoor
open Go.RowKit
set_option linter.unusedSimpArgs false
set_option linter.unusedVariables false
def up1 : ByteArray := { data := #[112, 97, 99, 107, 97, 103, 101, 32, 112, 32, 118, 101, 114, 115, 105, 111, 110, 32, 49, 46, 48, 46, 48, 32, 100, 101, 112, 32, 113, 32, 49, 46, 48, 46, 48, 46, 46, 49, 46, 53, 46, 48] }
def up2 : ByteArray := { data := #[112, 97, 99, 107, 97, 103, 101, 32, 112, 32, 118, 101, 114, 115, 105, 111, 110, 32, 49, 46, 48] }
theorem up1_end : (scanAll up1).2 = none := by decide +kernel
theorem up2_end : (scanAll up2).2 = none := by decide +kernel
theorem up1_man : manF ((scanAll up1).1.map Tok.text) = some ({ data := #[112] }, (1, 0, 0), [({ data := #[113] }, ((1, 0, 0), (1, 5, 0)))]) := by kernel_rfl
theorem up2_man : manF ((scanAll up2).1.map Tok.text) = none := by decide +kernel
theorem man1 (w : World) (hm : MaxW w) : Calls Tryz.prog 5 #[.string up1] w fun e w' => ∃ A cap, e = .returned (.tuple #[.agg (manV { data := #[112] } 1 0 0 A 1 cap), .nilIface]) ∧ DepsAt w' A [({ data := #[113] }, ((1, 0, 0), (1, 5, 0)))] ∧ Below w.heap.size w w' := by
  refine (manParse_c up1 w (by decide) hm).mono ?_
  rintro e w' ⟨hb, ⟨ts, k, b, h1, -⟩ | ⟨ts, h1, h2, -⟩ | ⟨ts, p, v, ds, A, cap, h1, h2, rfl, h4⟩⟩
  · have := up1_end; rw [h1] at this; cases this
  · have := up1_man; rw [h1, h2] at this; cases this
  · have := up1_man
    rw [h1, h2] at this
    injection this with this
    injection this with e1 e2
    injection e2 with e2 e3
    subst e1; subst e2; subst e3
    exact ⟨A, cap, rfl, h4, hb⟩
theorem man2 (w : World) (hm : MaxW w) : Calls Tryz.prog 5 #[.string up2] w fun e w' => e = .returned (.tuple #[.agg manZ, .iface 32 (.int .i64 2)]) ∧ Below w.heap.size w w' := by
  refine (manParse_c up2 w (by decide) hm).mono ?_
  rintro e w' ⟨hb, ⟨ts, k, b, h1, -⟩ | ⟨ts, h1, h2, rfl⟩ | ⟨ts, p, v, ds, A, cap, h1, h2, -⟩⟩
  · have := up2_end; rw [h1] at this; cases this
  · exact ⟨rfl, hb⟩
  · have := up2_man; rw [h1, h2] at this; cases this
end Go.Proofs.YtlpgkldialmofaaGreatDoor
