/- The contracts of slices.Concat at two rows of named types, and at two rows of interfaces. -/
import Derived.Test.YtjeldfipipkfiaaGreatGShelf
import Derived.Test.YtjeldfipipkfiaaGreatGMem
import Derived.Test.YtjeldfipipkfiaaGreatFewC
import Derived.Test.YtjeldfipipkfiaaGreatGBldS
namespace Go.Proofs.YtjeldfipipkfiaaGreat
open Go.RowKit
set_option linter.unusedSimpArgs false
set_option linter.unusedVariables false
theorem NmC.size {w : World} {B : Nat} {n : Nm} {cs : Array Value} (h : NmC w B n cs) : cs.size = 8 := by
  obtain ⟨-, na, nc, sa, sc, rfl, -⟩ := h; rfl
theorem NmC.one {w : World} {B : Nat} {n : Nm} {cs : Array Value} (h : NmC w B n cs) : ∀ u ∈ cs.toList, u.oneCell' = true := by
  obtain ⟨-, na, nc, sa, sc, rfl, -⟩ := h
  simp [nmCells, Value.oneCell']
theorem IfC.size {w : World} {B : Nat} {n : If} {cs : Array Value} (h : IfC w B n cs) : cs.size = 5 := by
  obtain ⟨-, na, nc, sa, sc, rfl, -⟩ := h; rfl
theorem IfC.one {w : World} {B : Nat} {n : If} {cs : Array Value} (h : IfC w B n cs) : ∀ u ∈ cs.toList, u.oneCell' = true := by
  obtain ⟨-, na, nc, sa, sc, rfl, -⟩ := h
  simp [ifCells, Value.oneCell']
theorem infoNamed : ((Tryz.prog).info? 57).map (fun i => (i.zero, i.size, i.bytes)) = some (some (.agg #[.string { data := #[] }, .int .i64 0, .string { data := #[] }, .int .i64 0, .string { data := #[] }, .string { data := #[] }, .slice none 0 0, .slice none 0 0]), 8, 128) := by kernel_rfl
end Go.Proofs.YtjeldfipipkfiaaGreat
