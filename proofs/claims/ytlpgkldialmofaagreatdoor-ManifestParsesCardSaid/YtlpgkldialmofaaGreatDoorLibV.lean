/- The library's contracts that a version's texts want, in this seat's numbers. -/
import Derived.Test.YtlpgkldialmofaaGreatDoorShelfV
import Derived.Test.YtlpgkldialmofaaGreatDoorBlkS
namespace Go.Proofs.YtlpgkldialmofaaGreatDoor
open Go.RowKit Go.Shelf
set_option linter.unusedVariables false
/-- the library's number reads as some int -/
def MaxW (w : World) : Prop := ∃ m, w.cell? ⟨1, 0, none⟩ = some (.int .i64 m)
theorem MaxW.of {w : World} (h : w.ShapedOpen Tryz.prog) : MaxW w := Go.Proofs.cell_of_shapedOpen_int (zero := #[.int .i64 0]) (t := 3) h (of_decide_eq_true (by kernel_rfl)) (by kernel_rfl) rfl (by kernel_rfl) (by kernel_rfl) Tryz.underlying3
theorem MaxW.below {w w' : World} (h : MaxW w) (hb : Below w.heap.size w w') : MaxW w' := by
  obtain ⟨m, hm⟩ := h
  exact ⟨m, (hb.cell (p := ⟨1, 0, none⟩) (World.block_lt_of_cell? w _ hm)).trans hm⟩
theorem split_c (s sep : ByteArray) (w : World) (hs : s.size < 4294967281) (h1 : 1 ≤ sep.size) (hm : MaxW w) :
    Calls Tryz.prog 32 #[.string s, .string sep] w fun e w' => e = .returned (.slice (some ⟨w.heap.size, 0, none⟩) (Lib.countB s sep + 1) (Lib.countB s sep + 1)) ∧ w' = w.alloc (.cells ((Lib.splitB sep 0 (Lib.countB s sep) s).map Value.string).toArray 9) := by
  obtain ⟨m, hm⟩ := hm
  exact Any.strings_Split Tryz.lays146 (by kernel_rfl) s sep m w hs hm h1
theorem cut_c (s sep : ByteArray) (w : World) (hs : s.size < 4294967281) (hm : MaxW w) :
    Calls Tryz.prog 60 #[.string s, .string sep] w fun e w' => e = .returned (.tuple #[.string ⟨(Lib.cut s.data.toList sep.data.toList).1.toArray⟩, .string ⟨(Lib.cut s.data.toList sep.data.toList).2.1.toArray⟩, .bool (Lib.cut s.data.toList sep.data.toList).2.2]) ∧ Below w.heap.size w w' := by
  obtain ⟨m, hm⟩ := hm
  refine (Any.strings_Cut Tryz.lays145 s sep m w hs hm).mono ?_
  rintro e w' ⟨rfl, n, rfl⟩
  exact ⟨rfl, below_drewN (Below.refl _ _) n⟩
end Go.Proofs.YtlpgkldialmofaaGreatDoor
