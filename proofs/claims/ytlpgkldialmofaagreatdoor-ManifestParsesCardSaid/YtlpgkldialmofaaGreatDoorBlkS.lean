/- Helpers, cut by program (extract.py) out of texts of another seat: Mem, MemM. -/
import Derived.Test.YtlpgkldialmofaaGreatDoorProg
import Derived.WalkKit
import Derived.WalkLawsBesides
import Derived.WalkSpells
import Derived.Handy
import Derived.Lib.Hide
import Derived.BigQuiet
import Derived.Below
import Derived.Deep.AppendLies
namespace Go.Proofs.YtlpgkldialmofaaGreatDoor
open Go.RowKit
set_option linter.unusedSimpArgs false
set_option linter.unusedVariables false
theorem acc0 {B : Nat} {w a c : World} (h : Below B w a) (hB : B ≤ a.heap.size) (hb : Below a.heap.size a c) : Below B w c := h.trans (hb.mono hB)
/-- a block of the call's own whose cells are known -/
def BoxAt (w : World) (b : Nat) (C : Array Value) : Prop := b < w.heap.size ∧ ∀ j, w.cell? ⟨b, j, none⟩ = C[j]?
theorem BoxAt.new (w : World) (C : Array Value) (T : TypeId) : BoxAt (w.alloc (.cells C T)) w.heap.size C := ⟨by simp, fun j => by simp⟩
theorem BoxAt.alloc {w : World} {b : Nat} {C : Array Value} (h : BoxAt w b C) (o : Obj) : BoxAt (w.alloc o) b C :=
  ⟨by have := h.1; simp; omega, fun j => (World.cell?_alloc_lt _ _ _ h.1).trans (h.2 j)⟩
theorem BoxAt.under {w w' : World} {b : Nat} {C : Array Value} (h : BoxAt w b C) (hb : Below w.heap.size w w') : BoxAt w' b C :=
  ⟨Nat.lt_of_lt_of_le h.1 hb.size, fun j => (hb.cell (p := ⟨b, j, none⟩) h.1).trans (h.2 j)⟩
/-- a block that is known whole, and may be written -/
def Blk (w : World) (b : Nat) (C : Array Value) (T : TypeId) : Prop := w.heap[b]? = some (.cells C T (0, 0))
theorem Blk.new (w : World) (C : Array Value) (T : TypeId) : Blk (w.alloc (.cells C T)) w.heap.size C T := heap_alloc_new w _
theorem Blk.lt {w : World} {b : Nat} {C : Array Value} {T : TypeId} (h : Blk w b C T) : b < w.heap.size := (Array.getElem?_eq_some_iff.1 h).1
theorem Blk.alloc {w : World} {b : Nat} {C : Array Value} {T : TypeId} (h : Blk w b C T) (o : Obj) : Blk (w.alloc o) b C T := (heap_alloc_old w o h.lt).trans h
theorem Blk.drew {w : World} {b : Nat} {C : Array Value} {T : TypeId} (h : Blk w b C T) : Blk w.drew b C T := h
theorem Blk.under {w w' : World} {b B : Nat} {C : Array Value} {T : TypeId} (h : Blk w b C T) (hb : Below B w w') (hB : b < B) : Blk w' b C T := (hb.block b hB).trans h
theorem Blk.cell {w : World} {b : Nat} {C : Array Value} {T : TypeId} (h : Blk w b C T) (j : Nat) : w.cell? ⟨b, j, none⟩ = C[j]? := by
  unfold World.cell?
  rw [show w.heap[b]? = some (.cells C T (0, 0)) from h]
  simp
theorem Blk.free {w : World} {b : Nat} {C : Array Value} {T : TypeId} (h : Blk w b C T) (j : Nat) : w.frozen? ⟨b, j, none⟩ = false := by
  unfold World.frozen?
  rw [show w.heap[b]? = some (.cells C T (0, 0)) from h]
  simp
theorem Blk.far {w : World} {b : Nat} {C : Array Value} {T : TypeId} (h : Blk w b C T) (p : Addr) (v : Value) (hp : b ≠ p.block) : Blk (w.setCell p v) b C T := (Below.heap_setCell w p v b hp).trans h
theorem Blk.set {w : World} {b : Nat} {C : Array Value} {T : TypeId} (h : Blk w b C T) (i : Nat) (v : Value) : Blk (w.setCell ⟨b, i, none⟩ v) b (C.setIfInBounds i v) T := by
  have hlt := h.lt
  have h' : w.heap[b] = .cells C T (0, 0) := by simpa [Array.getElem?_eq_getElem hlt] using (show w.heap[b]? = some (.cells C T (0, 0)) from h)
  show (w.heap.modify b _)[b]? = _
  rw [Array.getElem?_eq_getElem (by simpa using hlt), Array.getElem_modify_self, h']
  rfl
theorem Blk.at {w : World} {b : Nat} {C : Array Value} {T : TypeId} (h : Blk w b C T) : BoxAt w b C := ⟨h.lt, h.cell⟩
theorem addN {b o : Nat} (n : Nat) : Addr.add ⟨b, o, none⟩ n = ⟨b, o + n, none⟩ := by
  unfold Addr.add
  split <;> simp_all
end Go.Proofs.YtlpgkldialmofaaGreatDoor
