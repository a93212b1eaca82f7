/- The library's contracts that a version's texts want, in this seat's numbers. -/
import Derived.Test.YtlpgkldialmofaaDoorShelfV
import Derived.Test.YtlpgkldialmofaaDoorBlkS
namespace Go.Proofs.YtlpgkldialmofaaDoor
open Go.RowKit Go.Shelf Go.Sort
set_option linter.unusedVariables false
/-- the library's number reads as some int -/
def MaxW (w : World) : Prop := ∃ m, w.cell? ⟨0, 0, none⟩ = some (.int .i64 m)
theorem MaxW.of {w : World} (h : w.ShapedOpen Tryd.prog) : MaxW w := Go.Proofs.cell_of_shapedOpen_int (zero := #[.int .i64 0]) (t := 3) h (of_decide_eq_true (by kernel_rfl)) (by kernel_rfl) rfl (by kernel_rfl) (by kernel_rfl) Tryd.underlying3
theorem MaxW.below {w w' : World} (h : MaxW w) (hb : Below w.heap.size w w') : MaxW w' := by
  obtain ⟨m, hm⟩ := h
  exact ⟨m, (hb.cell (p := ⟨0, 0, none⟩) (World.block_lt_of_cell? w _ hm)).trans hm⟩
theorem split_c (s sep : ByteArray) (w : World) (hs : s.size < 4294967281) (h1 : 1 ≤ sep.size) (hm : MaxW w) :
    Calls Tryd.prog 30 #[.string s, .string sep] w fun e w' => e = .returned (.slice (some ⟨w.heap.size, 0, none⟩) (Lib.countB s sep + 1) (Lib.countB s sep + 1)) ∧ w' = w.alloc (.cells ((Lib.splitB sep 0 (Lib.countB s sep) s).map Value.string).toArray 9) := by
  obtain ⟨m, hm⟩ := hm
  exact Any.strings_Split Tryd.lays146 (by kernel_rfl) s sep m w hs hm h1
/-- the table that strconv.Itoa reads is as the program's text lays it -/
def TabW (w : World) : Prop := ∃ nm, (Tryd.prog).globalNamed nm = some 1 ∧ Lib.TabIs Tryd.prog w nm .u64 Lib.pow10Tab
theorem TabW.is {w : World} {nm : String} (h : TabW w) (hg : (Tryd.prog).globalNamed nm = some 1) : Lib.TabIs Tryd.prog w nm .u64 Lib.pow10Tab := by
  obtain ⟨nm', hg', h⟩ := h
  unfold Lib.TabIs World.var? at h ⊢
  rw [hg'] at h
  rw [hg]
  exact h
theorem TabW.below {w w' : World} (h : TabW w) (hb : Below w.heap.size w w') : TabW w' := by
  obtain ⟨nm, hg, h⟩ := h
  refine ⟨nm, hg, ?_⟩
  unfold Lib.TabIs World.var? at h ⊢
  rw [hg] at h ⊢
  simp only [Option.bind_some] at h ⊢
  have hlt : 1 < w.heap.size := by
    rcases Nat.lt_or_ge 1 w.heap.size with h' | h'
    · exact h'
    · rw [Array.getElem?_eq_none h'] at h; cases h
  rw [hb.block _ hlt]
  exact h
theorem below_grow_drewN (w : World) (k : Nat) (os : Array Obj) : Below w.heap.size w (grow (w.drewN k) os) := by
  have e : (w.drewN k).heap = w.heap := rfl
  refine ⟨rfl, rfl, rfl, ?_, fun i hi => ?_⟩
  · show w.heap.size ≤ ((w.drewN k).heap ++ os).size
    rw [e, Array.size_append]; omega
  · show ((w.drewN k).heap ++ os)[i]? = w.heap[i]?
    rw [e, Array.getElem?_append_left hi]
theorem itoa_c (n : Int) (h0 : -9223372036854775808 ≤ n) (h1 : n ≤ 9223372036854775807) (w : World) (htab : TabW w) :
    Calls Tryd.prog 27 #[.int .i64 n] w fun e w' => e = .returned (.string ⟨(Lib.itoa n).toArray⟩) ∧ Below w.heap.size w w' :=
  (Any.strconv_Itoa Tryd.laysM171 n h0 h1 w (htab.is (by kernel_rfl))).mono fun e w' ⟨he, k, os, hw⟩ => ⟨he, by subst hw; exact below_grow_drewN _ _ _⟩
theorem cut_c (s sep : ByteArray) (w : World) (hs : s.size < 4294967281) (hm : MaxW w) :
    Calls Tryd.prog 35 #[.string s, .string sep] w fun e w' => e = .returned (.tuple #[.string ⟨(Lib.cut s.data.toList sep.data.toList).1.toArray⟩, .string ⟨(Lib.cut s.data.toList sep.data.toList).2.1.toArray⟩, .bool (Lib.cut s.data.toList sep.data.toList).2.2]) ∧ Below w.heap.size w w' := by
  obtain ⟨m, hm⟩ := hm
  refine (Any.strings_Cut Tryd.lays145 s sep m w hs hm).mono ?_
  rintro e w' ⟨rfl, n, rfl⟩
  exact ⟨rfl, below_drewN (Below.refl _ _) n⟩
end Go.Proofs.YtlpgkldialmofaaDoor
