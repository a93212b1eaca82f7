/- Trees in memory whose blocks are told by a word M (not by a bound); an owned row of structs of seven cells. Plain Lean; no condition. -/
import Derived.Test.YtjeldfipipkfiaaGreatDoorMem
import Derived.Deep.AppendLies
import Derived.Test.YtjeldfipipkfiaaGreatDoorProg
namespace Go.Proofs.YtjeldfipipkfiaaGreatDoor
open Go.RowKit
set_option linter.unusedSimpArgs false
set_option linter.unusedVariables false
def StrsM (w : World) (M : Nat → Prop) (A : Option Addr) (l : List ByteArray) : Prop :=
  l = [] ∨ ∃ b o, A = some ⟨b, o, none⟩ ∧ M b ∧ ∀ i (h : i < l.length), w.cell? ⟨b, o + i, none⟩ = some (.string l[i])
def RowsM (w : World) (M : Nat → Prop) (A : Option Addr) (n : Nat) (f : Nat → Array Value) : Prop :=
  n = 0 ∨ ∃ b o, A = some ⟨b, o, none⟩ ∧ M b ∧ ∀ i, i < n → ∀ j, j < (f i).size → w.cell? ⟨b, o + i * 7 + j, none⟩ = (f i)[j]?
inductive TyM (w : World) (M : Nat → Prop) : Ty → Array Value → Prop
  | mk (t : Ty) (na : Option Addr) (nc : Nat) (sa : Option Addr) (sc : Nat) (f : Nat → Array Value) (hf : Fits t) (hn : StrsM w M na t.names) (hs : RowsM w M sa t.subs.length f)
      (hnc : t.names.length ≤ nc) (hsc : t.subs.length ≤ sc) (hsub : ∀ i (h : i < t.subs.length), TyM w M t.subs[i] (f i)) : TyM w M t (tyCells t na nc sa sc)
theorem TyM.inv {w : World} {M : Nat → Prop} {t : Ty} {cs : Array Value} (h : TyM w M t cs) : ∃ na nc sa sc f, cs = tyCells t na nc sa sc ∧ Fits t ∧ StrsM w M na t.names ∧ RowsM w M sa t.subs.length f ∧ t.names.length ≤ nc ∧ t.subs.length ≤ sc ∧
    ∀ i (h : i < t.subs.length), TyM w M t.subs[i] (f i) := by
  cases h with
  | mk _ na nc sa sc f hf hn hs hnc hsc hsub => exact ⟨na, nc, sa, sc, f, rfl, hf, hn, hs, hnc, hsc, hsub⟩
theorem TyC.toM {w : World} {B : Nat} {t : Ty} {cs : Array Value} (h : TyC w B t cs) : TyM w (· < B) t cs := by
  induction h with
  | mk t na nc sa sc f hf hn hs hnc hsc _ ih => exact .mk t na nc sa sc f hf hn hs hnc hsc ih
theorem TyM.toC {w : World} {B : Nat} {t : Ty} {cs : Array Value} (h : TyM w (· < B) t cs) : TyC w B t cs := by
  induction h with
  | mk t na nc sa sc f hf hn hs hnc hsc _ ih => exact .mk t na nc sa sc f hf hn hs hnc hsc ih
theorem StrsM.move {w w' : World} {M M' : Nat → Prop} {A : Option Addr} {l : List ByteArray} (h : StrsM w M A l) (hM : ∀ b, M b → M' b) (hk : ∀ p : Addr, M p.block → w'.cell? p = w.cell? p) : StrsM w' M' A l := by
  rcases h with h | ⟨b, o, h1, h2, h3⟩
  · exact .inl h
  · exact .inr ⟨b, o, h1, hM _ h2, fun i hi => (hk _ h2).trans (h3 i hi)⟩
theorem RowsM.move {w w' : World} {M M' : Nat → Prop} {A : Option Addr} {n : Nat} {f : Nat → Array Value} (h : RowsM w M A n f) (hM : ∀ b, M b → M' b) (hk : ∀ p : Addr, M p.block → w'.cell? p = w.cell? p) : RowsM w' M' A n f := by
  rcases h with h | ⟨b, o, h1, h2, h3⟩
  · exact .inl h
  · exact .inr ⟨b, o, h1, hM _ h2, fun i hi j hj => (hk _ h2).trans (h3 i hi j hj)⟩
theorem TyM.move {w w' : World} {M M' : Nat → Prop} {t : Ty} {cs : Array Value} (h : TyM w M t cs) (hM : ∀ b, M b → M' b) (hk : ∀ p : Addr, M p.block → w'.cell? p = w.cell? p) : TyM w' M' t cs := by
  induction h with
  | mk t na nc sa sc f hf hn hs hnc hsc _ ih => exact .mk t na nc sa sc f hf (hn.move hM hk) (hs.move hM hk) hnc hsc ih
theorem TyM.mono {w : World} {M M' : Nat → Prop} {t : Ty} {cs : Array Value} (h : TyM w M t cs) (hM : ∀ b, M b → M' b) : TyM w M' t cs := h.move hM fun _ _ => rfl
theorem TyM.keep {w w' : World} {M : Nat → Prop} {t : Ty} {cs : Array Value} (h : TyM w M t cs) (hk : ∀ p : Addr, M p.block → w'.cell? p = w.cell? p) : TyM w' M t cs := h.move (fun _ h => h) hk
theorem TyM.size {w : World} {M : Nat → Prop} {t : Ty} {cs : Array Value} (h : TyM w M t cs) : cs.size = 7 := by
  obtain ⟨_, _, _, _, _, rfl, -⟩ := h.inv
  rfl
/-- the element types' rows of the table -/
theorem info_str : ((Tryz.prog).info? 9).map (fun i => (i.zero, i.size, i.bytes)) = some (some (.string { data := #[] }), 1, 16) := by kernel_rfl
def zeroCells : Array Value := #[.int .i64 0, .string { data := #[] }, .int .i64 0, .string { data := #[] }, .string { data := #[] }, .slice none 0 0, .slice none 0 0]
theorem info_type : ((Tryz.prog).info? 29).map (fun i => (i.zero, i.size, i.bytes)) = some (some (.agg zeroCells), 7, 112) := by kernel_rfl
/-- cells of a row of structs of seven, one after the other -/
theorem flat_at : ∀ (F : List (Array Value)), (∀ c ∈ F, c.size = 7) → ∀ i (hi : i < F.length) j, j < 7 → (F.flatMap (·.toList))[i * 7 + j]? = (F[i])[j]?
  | [], _, i, hi, _, _ => by simp at hi
  | c :: F, h, i, hi, j, hj => by
    have hc := h c (by simp)
    cases i with
    | zero =>
      rw [List.flatMap_cons, List.getElem?_append_left (by simp; omega)]
      simp
    | succ i =>
      rw [List.flatMap_cons, List.getElem?_append_right (by simp; omega)]
      have : (i + 1) * 7 + j - c.toList.length = i * 7 + j := by simp [hc]; omega
      rw [this, flat_at F (fun c hc => h c (by simp [hc])) i (by simpa using hi) j hj]
      rfl
theorem flat_len : ∀ (F : List (Array Value)), (∀ c ∈ F, c.size = 7) → (F.flatMap (·.toList)).length = F.length * 7
  | [], _ => rfl
  | c :: F, h => by
    rw [List.flatMap_cons, List.length_append, flat_len F (fun c hc => h c (by simp [hc])), List.length_cons]
    have := h c (by simp)
    simp; omega
/-- an owned row reads cell by cell -/
theorem owns_cell {w : World} {base e size : Nat} {g cap n : Nat} {k : Nat} {xs : List Value} (h : w.ownsRow base e size (.slice (some ⟨g, 0, none⟩) k cap) n xs) {i : Nat} (hi : i < n * size) : w.cell? ⟨g, i, none⟩ = xs[i]? := by
  obtain ⟨hl, ⟨h0, -⟩ | ⟨g', cap', cur, hv, hb, hh, hn, hm, hz, ht⟩⟩ := h
  · simp at h0
  · simp at hv
    obtain ⟨rfl, rfl, rfl⟩ := hv
    unfold World.cell?
    rw [hh]
    simp only [Option.isSome_none, Bool.false_eq_true, if_false]
    rw [← ht, List.getElem?_take_of_lt hi]
    simp
/-- a block that is known whole, and may be written -/
def Blk (w : World) (b : Nat) (C : Array Value) (T : TypeId) : Prop := w.heap[b]? = some (.cells C T (0, 0))
theorem Blk.new (w : World) (C : Array Value) (T : TypeId) : Blk (w.alloc (.cells C T)) w.heap.size C T := heap_alloc_new w _
theorem Blk.lt {w : World} {b : Nat} {C : Array Value} {T : TypeId} (h : Blk w b C T) : b < w.heap.size := (Array.getElem?_eq_some_iff.1 h).1
theorem Blk.alloc {w : World} {b : Nat} {C : Array Value} {T : TypeId} (h : Blk w b C T) (o : Obj) : Blk (w.alloc o) b C T := (heap_alloc_old w o h.lt).trans h
theorem Blk.drew {w : World} {b : Nat} {C : Array Value} {T : TypeId} (h : Blk w b C T) : Blk w.drew b C T := h
theorem Blk.under {w w' : World} {b B : Nat} {C : Array Value} {T : TypeId} (h : Blk w b C T) (hb : Below B w w') (hB : b < B) : Blk w' b C T := (hb.block b hB).trans h
theorem Blk.cell {w : World} {b : Nat} {C : Array Value} {T : TypeId} (h : Blk w b C T) (j : Nat) : w.cell? ⟨b, j, none⟩ = C[j]? := by
  unfold World.cell?
  rw [show w.heap[b]? = some (.cells C T (0, 0)) from h]
  simp
theorem Blk.free {w : World} {b : Nat} {C : Array Value} {T : TypeId} (h : Blk w b C T) (j : Nat) : w.frozen? ⟨b, j, none⟩ = false := by
  unfold World.frozen?
  rw [show w.heap[b]? = some (.cells C T (0, 0)) from h]
  simp
theorem Blk.far {w : World} {b : Nat} {C : Array Value} {T : TypeId} (h : Blk w b C T) (p : Addr) (v : Value) (hp : b ≠ p.block) : Blk (w.setCell p v) b C T := (Below.heap_setCell w p v b hp).trans h
theorem Blk.set {w : World} {b : Nat} {C : Array Value} {T : TypeId} (h : Blk w b C T) (i : Nat) (v : Value) : Blk (w.setCell ⟨b, i, none⟩ v) b (C.setIfInBounds i v) T := by
  have hlt := h.lt
  have h' : w.heap[b] = .cells C T (0, 0) := by simpa [Array.getElem?_eq_getElem hlt] using (show w.heap[b]? = some (.cells C T (0, 0)) from h)
  show (w.heap.modify b _)[b]? = _
  rw [Array.getElem?_eq_getElem (by simpa using hlt), Array.getElem_modify_self, h']
  rfl
theorem Blk.at {w : World} {b : Nat} {C : Array Value} {T : TypeId} (h : Blk w b C T) : BoxAt w b C := ⟨h.lt, h.cell⟩
theorem addN {b o : Nat} (n : Nat) : Addr.add ⟨b, o, none⟩ n = ⟨b, o + n, none⟩ := by
  unfold Addr.add
  split <;> simp_all
end Go.Proofs.YtjeldfipipkfiaaGreatDoor
