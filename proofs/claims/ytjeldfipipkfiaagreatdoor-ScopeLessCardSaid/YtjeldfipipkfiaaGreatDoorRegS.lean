/- A region that draws its order: an operation whose guard is off may be passed over first. -/
import Derived.Test.YtjeldfipipkfiaaGreatDoorRegM
namespace Go.Proofs.YtjeldfipipkfiaaGreatDoor
section
variable {P : Program} {ops : Array Oper} {Q : Exit → Act → World → Prop} {md : Region.Mode} {cs : List (Nat × (World → Prop))}
/-- Pass operation i over first: its guard is off. -/
theorem AnyU.skip {i : Nat} {oi : Oper} {n : Nat} {l : Array Bool} {a : Act} {w : World} (hi : ops[i]? = some oi) (hs : Region.noSelect ops = true)
    (hf : Region.free md ops l i = true) (hr : (Region.ready md ops l).contains i = true) (hQ : ∀ c a w, Q (.panic c) (a.put oi.dst undef) w → Q (.panic c) a w)
    (hne : (cs.all fun x => x.1 != i) = true) (hS : Until cs l w) (hw : Region.wanted oi (yielded ops a.tmps) = false)
    (h : Until cs (l.setIfInBounds i true) w → AnyU P md ops Q cs n (l.setIfInBounds i true) (a.put oi.dst undef) w) : AnyU P md ops Q cs (n + 1) l a w :=
  AnyU.first (Si := fun _ => True) hi (Region.noSelect_spec hs) hQ (by simpa using hne) n l a w (Region.free_spec hi hf) (by simpa using hr) (.inl fun _ => trivial) (.inr ⟨hw, rfl⟩) hS (h ((Until.put (by simpa using hne)).2 hS))
end
end Go.Proofs.YtjeldfipipkfiaaGreatDoor
