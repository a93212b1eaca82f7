/- The library's error type, where the program lays it. -/
import Derived.Test.YtlpgkldialmofaaGreatDoorIsC
import Derived.Test.YtlpgkldialmofaaGreatDoorTokM
namespace Go.Proofs.YtlpgkldialmofaaGreatDoor
open Go.RowKit
def HandleAt (w : World) : Prop := w.cell? ⟨0, 0, none⟩ = some (.iface 125 (.agg #[.pointer (some ⟨4, 29, none⟩)]))
theorem HandleAt.under {w w' : World} (h : HandleAt w) (hb : Below w.heap.size w w') : HandleAt w' := by
  unfold HandleAt
  rw [hb.cell (p := ⟨0, 0, none⟩) (cell_lt h)]
  exact h
end Go.Proofs.YtlpgkldialmofaaGreatDoor
