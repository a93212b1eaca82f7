/- Small words for regions that draw, and for blocks of a few cells. Plain; no condition. -/
import Derived.Test.YtjeldfipipkfiaaGreatDoorRegS
import Derived.Test.YtjeldfipipkfiaaGreatDoorMemM
namespace Go.Proofs.YtjeldfipipkfiaaGreatDoor
open Go.RowKit
set_option linter.unusedSimpArgs false
set_option linter.unusedVariables false
theorem Until.offT {cs : List (Nat × (World → Prop))} {l : Array Bool} {w : World} (h : (cs.all fun x => l.getD x.1 true) = true) : Until cs l w := fun x hx hl => by
  have := List.all_eq_true.1 h x hx
  rw [hl] at this
  cases this
theorem laidD (w : World) (C : Array Value) (T : TypeId) : Blk ((w.alloc (.cells C T)).drew) w.heap.size C T ∧ Below w.heap.size w ((w.alloc (.cells C T)).drew) ∧ ((w.alloc (.cells C T)).drew).heap.size = w.heap.size + 1 :=
  ⟨(Blk.new _ _ _).drew, ((Below.refl _ _).alloc (Nat.le_refl _) _).drew, by show (w.alloc (.cells C T)).heap.size = _; simp⟩
theorem laidN (w : World) (C : Array Value) (T : TypeId) : Blk (w.alloc (.cells C T)) w.heap.size C T ∧ Below w.heap.size w (w.alloc (.cells C T)) ∧ (w.alloc (.cells C T)).heap.size = w.heap.size + 1 :=
  ⟨Blk.new w C T, (Below.refl w.heap.size w).alloc (Nat.le_refl _) _, by simp⟩
theorem cellsT1 {w : World} {g : Nat} {T : TypeId} {x0 : Value} (h : Blk w g #[x0] T) : w.cell? ⟨g, 0, none⟩ = some x0 := h.cell 0
theorem cellsT2 {w : World} {g : Nat} {T : TypeId} {x0 x1 : Value} (h : Blk w g #[x0, x1] T) : w.cell? ⟨g, 0, none⟩ = some x0 ∧ w.cell? ⟨g, 1, none⟩ = some x1 := ⟨h.cell 0, h.cell 1⟩
theorem cellsT3 {w : World} {g : Nat} {T : TypeId} {x0 x1 x2 : Value} (h : Blk w g #[x0, x1, x2] T) :
    w.cell? ⟨g, 0, none⟩ = some x0 ∧ w.cell? ⟨g, 1, none⟩ = some x1 ∧ w.cell? ⟨g, 2, none⟩ = some x2 := ⟨h.cell 0, h.cell 1, h.cell 2⟩
theorem cellsT4 {w : World} {g : Nat} {T : TypeId} {x0 x1 x2 x3 : Value} (h : Blk w g #[x0, x1, x2, x3] T) :
    w.cell? ⟨g, 0, none⟩ = some x0 ∧ w.cell? ⟨g, 1, none⟩ = some x1 ∧ w.cell? ⟨g, 2, none⟩ = some x2 ∧ w.cell? ⟨g, 3, none⟩ = some x3 := ⟨h.cell 0, h.cell 1, h.cell 2, h.cell 3⟩
theorem cellsT7 {w : World} {g : Nat} {T : TypeId} {x0 x1 x2 x3 x4 x5 x6 : Value} (h : Blk w g #[x0, x1, x2, x3, x4, x5, x6] T) :
    w.cell? ⟨g, 0, none⟩ = some x0 ∧ w.cell? ⟨g, 1, none⟩ = some x1 ∧ w.cell? ⟨g, 2, none⟩ = some x2 ∧ w.cell? ⟨g, 3, none⟩ = some x3 ∧ w.cell? ⟨g, 4, none⟩ = some x4 ∧ w.cell? ⟨g, 5, none⟩ = some x5 ∧ w.cell? ⟨g, 6, none⟩ = some x6 :=
  ⟨h.cell 0, h.cell 1, h.cell 2, h.cell 3, h.cell 4, h.cell 5, h.cell 6⟩
theorem cellsT8 {w : World} {g : Nat} {T : TypeId} {x0 x1 x2 x3 x4 x5 x6 x7 : Value} (h : Blk w g #[x0, x1, x2, x3, x4, x5, x6, x7] T) :
    w.cell? ⟨g, 0, none⟩ = some x0 ∧ w.cell? ⟨g, 1, none⟩ = some x1 ∧ w.cell? ⟨g, 2, none⟩ = some x2 ∧ w.cell? ⟨g, 3, none⟩ = some x3 ∧ w.cell? ⟨g, 4, none⟩ = some x4 ∧ w.cell? ⟨g, 5, none⟩ = some x5 ∧ w.cell? ⟨g, 6, none⟩ = some x6 ∧ w.cell? ⟨g, 7, none⟩ = some x7 :=
  ⟨h.cell 0, h.cell 1, h.cell 2, h.cell 3, h.cell 4, h.cell 5, h.cell 6, h.cell 7⟩
theorem cellsT9 {w : World} {g : Nat} {T : TypeId} {x0 x1 x2 x3 x4 x5 x6 x7 x8 : Value} (h : Blk w g #[x0, x1, x2, x3, x4, x5, x6, x7, x8] T) :
    w.cell? ⟨g, 0, none⟩ = some x0 ∧ w.cell? ⟨g, 1, none⟩ = some x1 ∧ w.cell? ⟨g, 2, none⟩ = some x2 ∧ w.cell? ⟨g, 3, none⟩ = some x3 ∧ w.cell? ⟨g, 4, none⟩ = some x4 ∧ w.cell? ⟨g, 5, none⟩ = some x5 ∧ w.cell? ⟨g, 6, none⟩ = some x6 ∧ w.cell? ⟨g, 7, none⟩ = some x7 ∧ w.cell? ⟨g, 8, none⟩ = some x8 :=
  ⟨h.cell 0, h.cell 1, h.cell 2, h.cell 3, h.cell 4, h.cell 5, h.cell 6, h.cell 7, h.cell 8⟩
end Go.Proofs.YtjeldfipipkfiaaGreatDoor
