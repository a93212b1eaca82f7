/- Words for memory: a slice that reads as a list of strings; a struct api.Type that reads as a tree. Plain Lean; no condition. -/
import Derived.WalkKit
import Derived.WalkLawsBesides
import Derived.WalkSpells
import Derived.Handy
import Derived.Lib.Hide
import Derived.BigQuiet
import Derived.Deep.AppendLies
import Derived.Test.YtjeldfipipkfiaaGreatProg
import Derived.Lib.SliceRun
namespace Go.Proofs.YtjeldfipipkfiaaGreat
open Go.RowKit
theorem ret_b {a b : Bool} (h : a = b) : Ending.returned (.bool a) = Ending.returned (.bool b) := by rw [h]
theorem ret_i {k : IntKind} {a b : Int} (h : a = b) : Ending.returned (.int k a) = Ending.returned (.int k b) := by rw [h]
def StrsAt (w : World) (B : Nat) (A : Option Addr) (l : List ByteArray) : Prop :=
  l = [] ∨ ∃ b o, A = some ⟨b, o, none⟩ ∧ b < B ∧ ∀ i (h : i < l.length), w.cell? ⟨b, o + i, none⟩ = some (.string l[i])
theorem StrsAt.keep {w w' : World} {B : Nat} {A : Option Addr} {l : List ByteArray} (h : StrsAt w B A l) (hk : ∀ p : Addr, p.block < B → w'.cell? p = w.cell? p) : StrsAt w' B A l := by
  rcases h with h | ⟨b, o, h1, h2, h3⟩
  · exact .inl h
  · exact .inr ⟨b, o, h1, h2, fun i hi => (hk _ h2).trans (h3 i hi)⟩
theorem ba_eq (a b : ByteArray) : (a.toList == b.toList) = decide (a = b) := by
  rw [Bool.eq_iff_iff, beq_iff_eq, decide_eq_true_eq, ByteArray.toList_eq, ByteArray.toList_eq]
  constructor
  · intro h
    cases a; cases b
    simpa [Array.toList_inj] using h
  · rintro rfl; rfl
theorem ba_yes {a b : ByteArray} (h : a = b) : (a.toList == b.toList) = true := by rw [ba_eq]; simpa using h
theorem ba_no {a b : ByteArray} (h : a ≠ b) : (a.toList == b.toList) = false := by rw [ba_eq]; simpa using h

theorem StrsAt.mono {w : World} {B B' : Nat} {A : Option Addr} {l : List ByteArray} (h : StrsAt w B A l) (hB : B ≤ B') : StrsAt w B' A l := by
  rcases h with h | ⟨b, o, h1, h2, h3⟩
  · exact .inl h
  · exact .inr ⟨b, o, h1, by omega, h3⟩
theorem acc0 {B : Nat} {w a c : World} (h : Below B w a) (hB : B ≤ a.heap.size) (hb : Below a.heap.size a c) : Below B w c := h.trans (hb.mono hB)
theorem acc1 {B : Nat} {w a c : World} {o : Obj} (h : Below B w a) (hB : B ≤ a.heap.size) (hb : Below (a.alloc o).heap.size (a.alloc o) c) : Below B w c :=
  (h.alloc hB o).trans (hb.mono (Nat.le_trans hB (by simp)))

inductive Ty where
  | mk (kind : Int) (pkg : ByteArray) (major : Int) (mod name : ByteArray) (names : List ByteArray) (subs : List Ty)
namespace Ty
def kind : Ty → Int | mk k _ _ _ _ _ _ => k
def pkg : Ty → ByteArray | mk _ p _ _ _ _ _ => p
def major : Ty → Int | mk _ _ m _ _ _ _ => m
def mod : Ty → ByteArray | mk _ _ _ m _ _ _ => m
def name : Ty → ByteArray | mk _ _ _ _ n _ _ => n
def names : Ty → List ByteArray | mk _ _ _ _ _ l _ => l
def subs : Ty → List Ty | mk _ _ _ _ _ _ l => l
theorem eta : ∀ t : Ty, t = mk t.kind t.pkg t.major t.mod t.name t.names t.subs | mk .. => rfl
theorem size_sub (t s : Ty) (h : s ∈ t.subs) : SizeOf.sizeOf s < SizeOf.sizeOf t := by
  cases t with
  | mk k p m mo n l ss =>
    have := List.sizeOf_lt_of_mem h
    simp only [mk.sizeOf_spec]
    simp only [subs] at this
    omega
theorem ind {P : Ty → Prop} (h : ∀ t, (∀ s ∈ t.subs, P s) → P t) (t : Ty) : P t := by
  suffices ∀ (n : Nat) (t : Ty), SizeOf.sizeOf t < n → P t from this (SizeOf.sizeOf t + 1) t (Nat.lt_succ_self _)
  intro n
  induction n with
  | zero => intro t ht; omega
  | succ n ih => exact fun t ht => h t fun s hs => ih s (by have := size_sub t s hs; omega)
end Ty
structure Fits (t : Ty) : Prop where
  kind : -9223372036854775808 ≤ t.kind ∧ t.kind ≤ 9223372036854775807
  major : -9223372036854775808 ≤ t.major ∧ t.major ≤ 9223372036854775807
  pkg : t.pkg.size ≤ maxLen
  mod : t.mod.size ≤ maxLen
  name : t.name.size ≤ maxLen
  names : t.names.length ≤ maxLen
  each : ∀ s ∈ t.names, s.size ≤ maxLen
  subs : t.subs.length ≤ maxLen
def tyCells (t : Ty) (na : Option Addr) (nc : Nat) (sa : Option Addr) (sc : Nat) : Array Value :=
  #[.int .i64 t.kind, .string t.pkg, .int .i64 t.major, .string t.mod, .string t.name, .slice na t.names.length nc, .slice sa t.subs.length sc]
def RowsAt (w : World) (B : Nat) (A : Option Addr) (n : Nat) (f : Nat → Array Value) : Prop :=
  n = 0 ∨ ∃ b o, A = some ⟨b, o, none⟩ ∧ b < B ∧ ∀ i, i < n → ∀ j, j < (f i).size → w.cell? ⟨b, o + i * 7 + j, none⟩ = (f i)[j]?
inductive TyC (w : World) (B : Nat) : Ty → Array Value → Prop
  | mk (t : Ty) (na : Option Addr) (nc : Nat) (sa : Option Addr) (sc : Nat) (f : Nat → Array Value) (hf : Fits t) (hn : StrsAt w B na t.names) (hs : RowsAt w B sa t.subs.length f)
      (hnc : t.names.length ≤ nc) (hsc : t.subs.length ≤ sc) (hsub : ∀ i (h : i < t.subs.length), TyC w B t.subs[i] (f i)) : TyC w B t (tyCells t na nc sa sc)
theorem RowsAt.keep {w w' : World} {B : Nat} {A : Option Addr} {n : Nat} {f : Nat → Array Value} (h : RowsAt w B A n f) (hk : ∀ p : Addr, p.block < B → w'.cell? p = w.cell? p) : RowsAt w' B A n f := by
  rcases h with h | ⟨b, o, h1, h2, h3⟩
  · exact .inl h
  · exact .inr ⟨b, o, h1, h2, fun i hi j hj => (hk _ h2).trans (h3 i hi j hj)⟩
theorem RowsAt.mono {w : World} {B B' : Nat} {A : Option Addr} {n : Nat} {f : Nat → Array Value} (h : RowsAt w B A n f) (hB : B ≤ B') : RowsAt w B' A n f := by
  rcases h with h | ⟨b, o, h1, h2, h3⟩
  · exact .inl h
  · exact .inr ⟨b, o, h1, by omega, h3⟩
theorem TyC.keep {w w' : World} {B : Nat} {t : Ty} {cs : Array Value} (h : TyC w B t cs) (hk : ∀ p : Addr, p.block < B → w'.cell? p = w.cell? p) : TyC w' B t cs := by
  induction h with
  | mk t na nc sa sc f hf hn hs hnc hsc _ ih => exact .mk t na nc sa sc f hf (hn.keep hk) (hs.keep hk) hnc hsc ih
theorem TyC.mono {w : World} {B B' : Nat} {t : Ty} {cs : Array Value} (h : TyC w B t cs) (hB : B ≤ B') : TyC w B' t cs := by
  induction h with
  | mk t na nc sa sc f hf hn hs hnc hsc _ ih => exact .mk t na nc sa sc f hf (hn.mono hB) (hs.mono hB) hnc hsc ih
theorem TyC.under {w w' : World} {B : Nat} {t : Ty} {cs : Array Value} (h : TyC w B t cs) (hb : Below B w w') : TyC w' B t cs := h.keep fun _ hp => hb.cell hp
theorem TyC.alloc {w : World} {B : Nat} {t : Ty} {cs : Array Value} (h : TyC w B t cs) (hB : B ≤ w.heap.size) (o : Obj) : TyC (w.alloc o) B t cs := h.keep fun _ hp => World.cell?_alloc_lt _ _ _ (by omega)
theorem TyC.setCell {w : World} {B : Nat} {t : Ty} {cs : Array Value} (h : TyC w B t cs) {p : Addr} (hp : B ≤ p.block) (u : Value) : TyC (w.setCell p u) B t cs :=
  h.keep fun q hq => World.cell?_setCell_other w p q u (fun e => by subst e; omega)
theorem StrsAt.under {w w' : World} {B : Nat} {A : Option Addr} {l : List ByteArray} (h : StrsAt w B A l) (hb : Below B w w') : StrsAt w' B A l := h.keep fun _ hp => hb.cell hp
theorem StrsAt.alloc {w : World} {B : Nat} {A : Option Addr} {l : List ByteArray} (h : StrsAt w B A l) (hB : B ≤ w.heap.size) (o : Obj) : StrsAt (w.alloc o) B A l := h.keep fun _ hp => World.cell?_alloc_lt _ _ _ (by omega)
theorem TyC.inv {w : World} {B : Nat} {t : Ty} {cs : Array Value} (h : TyC w B t cs) : ∃ na nc sa sc f, cs = tyCells t na nc sa sc ∧ Fits t ∧ StrsAt w B na t.names ∧ RowsAt w B sa t.subs.length f ∧ t.names.length ≤ nc ∧ t.subs.length ≤ sc ∧
    ∀ i (h : i < t.subs.length), TyC w B t.subs[i] (f i) := by
  cases h with
  | mk _ na nc sa sc f hf hn hs hnc hsc hsub => exact ⟨na, nc, sa, sc, f, rfl, hf, hn, hs, hnc, hsc, hsub⟩
theorem box_keep {w w1 : World} {C : Array Value} {T : TypeId} (hb : Below (w.alloc (.cells C T)).heap.size (w.alloc (.cells C T)) w1) :
    (∀ j, w1.cell? ⟨w.heap.size, j, none⟩ = C[j]?) ∧ w.heap.size < w1.heap.size ∧ Below w.heap.size w w1 :=
  ⟨fun j => (hb.cell (p := ⟨w.heap.size, j, none⟩) (by simp)).trans (by simp), by have := hb.size; simp at this; omega,
    ((Below.refl _ _).alloc (Nat.le_refl _) _).trans (hb.mono (by simp))⟩
def BoxAt (w : World) (b : Nat) (C : Array Value) : Prop := b < w.heap.size ∧ ∀ j, w.cell? ⟨b, j, none⟩ = C[j]?
theorem BoxAt.new (w : World) (C : Array Value) (T : TypeId) : BoxAt (w.alloc (.cells C T)) w.heap.size C := ⟨by simp, fun j => by simp⟩
theorem BoxAt.alloc {w : World} {b : Nat} {C : Array Value} (h : BoxAt w b C) (o : Obj) : BoxAt (w.alloc o) b C :=
  ⟨by have := h.1; simp; omega, fun j => (World.cell?_alloc_lt _ _ _ h.1).trans (h.2 j)⟩
theorem BoxAt.under {w w' : World} {b : Nat} {C : Array Value} (h : BoxAt w b C) (hb : Below w.heap.size w w') : BoxAt w' b C :=
  ⟨Nat.lt_of_lt_of_le h.1 hb.size, fun j => (hb.cell (p := ⟨b, j, none⟩) h.1).trans (h.2 j)⟩
theorem TyC.elem {w : World} {B : Nat} {A : Option Addr} {n : Nat} {f : Nat → Array Value} (hs : RowsAt w B A n f) {k : Nat} (hk : k < n) {s : Ty} (hc : TyC w B s (f k)) :
    ∃ b o na nc sa sc, A = some ⟨b, o, none⟩ ∧ b < B ∧ f k = tyCells s na nc sa sc ∧
      w.cell? ⟨b, o + k * 7, none⟩ = some (.int .i64 s.kind) ∧ w.cell? ⟨b, o + k * 7 + 1, none⟩ = some (.string s.pkg) ∧ w.cell? ⟨b, o + k * 7 + 2, none⟩ = some (.int .i64 s.major) ∧
      w.cell? ⟨b, o + k * 7 + 3, none⟩ = some (.string s.mod) ∧ w.cell? ⟨b, o + k * 7 + 4, none⟩ = some (.string s.name) ∧
      w.cell? ⟨b, o + k * 7 + 5, none⟩ = some (.slice na s.names.length nc) ∧ w.cell? ⟨b, o + k * 7 + 6, none⟩ = some (.slice sa s.subs.length sc) := by
  obtain ⟨na, nc, sa, sc, g, hfk, -⟩ := hc.inv
  rcases hs with hs | ⟨b, o, hA, hb, h⟩
  · omega
  · have hz : (f k).size = 7 := by rw [hfk]; rfl
    have e := fun j hj => h k hk j (by rw [hz]; exact hj)
    rw [hfk] at e
    exact ⟨b, o, na, nc, sa, sc, hA, hb, hfk, e 0 (by omega), e 1 (by omega), e 2 (by omega), e 3 (by omega), e 4 (by omega), e 5 (by omega), e 6 (by omega)⟩
end Go.Proofs.YtjeldfipipkfiaaGreat
namespace Go.Proofs.YtjeldfipipkfiaaGreat
open Go.RowKit
set_option linter.unusedSimpArgs false
set_option linter.unusedVariables false
def StrsM (w : World) (M : Nat → Prop) (A : Option Addr) (l : List ByteArray) : Prop :=
  l = [] ∨ ∃ b o, A = some ⟨b, o, none⟩ ∧ M b ∧ ∀ i (h : i < l.length), w.cell? ⟨b, o + i, none⟩ = some (.string l[i])
def RowsM (w : World) (M : Nat → Prop) (A : Option Addr) (n : Nat) (f : Nat → Array Value) : Prop :=
  n = 0 ∨ ∃ b o, A = some ⟨b, o, none⟩ ∧ M b ∧ ∀ i, i < n → ∀ j, j < (f i).size → w.cell? ⟨b, o + i * 7 + j, none⟩ = (f i)[j]?
inductive TyM (w : World) (M : Nat → Prop) : Ty → Array Value → Prop
  | mk (t : Ty) (na : Option Addr) (nc : Nat) (sa : Option Addr) (sc : Nat) (f : Nat → Array Value) (hf : Fits t) (hn : StrsM w M na t.names) (hs : RowsM w M sa t.subs.length f)
      (hnc : t.names.length ≤ nc) (hsc : t.subs.length ≤ sc) (hsub : ∀ i (h : i < t.subs.length), TyM w M t.subs[i] (f i)) : TyM w M t (tyCells t na nc sa sc)
theorem TyM.inv {w : World} {M : Nat → Prop} {t : Ty} {cs : Array Value} (h : TyM w M t cs) : ∃ na nc sa sc f, cs = tyCells t na nc sa sc ∧ Fits t ∧ StrsM w M na t.names ∧ RowsM w M sa t.subs.length f ∧ t.names.length ≤ nc ∧ t.subs.length ≤ sc ∧
    ∀ i (h : i < t.subs.length), TyM w M t.subs[i] (f i) := by
  cases h with
  | mk _ na nc sa sc f hf hn hs hnc hsc hsub => exact ⟨na, nc, sa, sc, f, rfl, hf, hn, hs, hnc, hsc, hsub⟩
theorem TyM.toC {w : World} {B : Nat} {t : Ty} {cs : Array Value} (h : TyM w (· < B) t cs) : TyC w B t cs := by
  induction h with
  | mk t na nc sa sc f hf hn hs hnc hsc _ ih => exact .mk t na nc sa sc f hf hn hs hnc hsc ih
theorem StrsM.move {w w' : World} {M M' : Nat → Prop} {A : Option Addr} {l : List ByteArray} (h : StrsM w M A l) (hM : ∀ b, M b → M' b) (hk : ∀ p : Addr, M p.block → w'.cell? p = w.cell? p) : StrsM w' M' A l := by
  rcases h with h | ⟨b, o, h1, h2, h3⟩
  · exact .inl h
  · exact .inr ⟨b, o, h1, hM _ h2, fun i hi => (hk _ h2).trans (h3 i hi)⟩
theorem RowsM.move {w w' : World} {M M' : Nat → Prop} {A : Option Addr} {n : Nat} {f : Nat → Array Value} (h : RowsM w M A n f) (hM : ∀ b, M b → M' b) (hk : ∀ p : Addr, M p.block → w'.cell? p = w.cell? p) : RowsM w' M' A n f := by
  rcases h with h | ⟨b, o, h1, h2, h3⟩
  · exact .inl h
  · exact .inr ⟨b, o, h1, hM _ h2, fun i hi j hj => (hk _ h2).trans (h3 i hi j hj)⟩
theorem TyM.move {w w' : World} {M M' : Nat → Prop} {t : Ty} {cs : Array Value} (h : TyM w M t cs) (hM : ∀ b, M b → M' b) (hk : ∀ p : Addr, M p.block → w'.cell? p = w.cell? p) : TyM w' M' t cs := by
  induction h with
  | mk t na nc sa sc f hf hn hs hnc hsc _ ih => exact .mk t na nc sa sc f hf (hn.move hM hk) (hs.move hM hk) hnc hsc ih
theorem TyM.mono {w : World} {M M' : Nat → Prop} {t : Ty} {cs : Array Value} (h : TyM w M t cs) (hM : ∀ b, M b → M' b) : TyM w M' t cs := h.move hM fun _ _ => rfl
theorem TyM.keep {w w' : World} {M : Nat → Prop} {t : Ty} {cs : Array Value} (h : TyM w M t cs) (hk : ∀ p : Addr, M p.block → w'.cell? p = w.cell? p) : TyM w' M t cs := h.move (fun _ h => h) hk
theorem TyM.size {w : World} {M : Nat → Prop} {t : Ty} {cs : Array Value} (h : TyM w M t cs) : cs.size = 7 := by
  obtain ⟨_, _, _, _, _, rfl, -⟩ := h.inv
  rfl
theorem info_str : ((Tryz.prog).info? 9).map (fun i => (i.zero, i.size, i.bytes)) = some (some (.string { data := #[] }), 1, 16) := by kernel_rfl
def zeroCells : Array Value := #[.int .i64 0, .string { data := #[] }, .int .i64 0, .string { data := #[] }, .string { data := #[] }, .slice none 0 0, .slice none 0 0]
theorem info_type : ((Tryz.prog).info? 53).map (fun i => (i.zero, i.size, i.bytes)) = some (some (.agg zeroCells), 7, 112) := by kernel_rfl
theorem flat_at : ∀ (F : List (Array Value)), (∀ c ∈ F, c.size = 7) → ∀ i (hi : i < F.length) j, j < 7 → (F.flatMap (·.toList))[i * 7 + j]? = (F[i])[j]?
  | [], _, i, hi, _, _ => by simp at hi
  | c :: F, h, i, hi, j, hj => by
    have hc := h c (by simp)
    cases i with
    | zero =>
      rw [List.flatMap_cons, List.getElem?_append_left (by simp; omega)]
      simp
    | succ i =>
      rw [List.flatMap_cons, List.getElem?_append_right (by simp; omega)]
      have : (i + 1) * 7 + j - c.toList.length = i * 7 + j := by simp [hc]; omega
      rw [this, flat_at F (fun c hc => h c (by simp [hc])) i (by simpa using hi) j hj]
      rfl
theorem owns_cell {w : World} {base e size : Nat} {g cap n : Nat} {k : Nat} {xs : List Value} (h : w.ownsRow base e size (.slice (some ⟨g, 0, none⟩) k cap) n xs) {i : Nat} (hi : i < n * size) : w.cell? ⟨g, i, none⟩ = xs[i]? := by
  obtain ⟨hl, ⟨h0, -⟩ | ⟨g', cap', cur, hv, hb, hh, hn, hm, hz, ht⟩⟩ := h
  · simp at h0
  · simp at hv
    obtain ⟨rfl, rfl, rfl⟩ := hv
    unfold World.cell?
    rw [hh]
    simp only [Option.isSome_none, Bool.false_eq_true, if_false]
    rw [← ht, List.getElem?_take_of_lt hi]
    simp
def Blk (w : World) (b : Nat) (C : Array Value) (T : TypeId) : Prop := w.heap[b]? = some (.cells C T (0, 0))
theorem Blk.new (w : World) (C : Array Value) (T : TypeId) : Blk (w.alloc (.cells C T)) w.heap.size C T := heap_alloc_new w _
theorem Blk.lt {w : World} {b : Nat} {C : Array Value} {T : TypeId} (h : Blk w b C T) : b < w.heap.size := (Array.getElem?_eq_some_iff.1 h).1
theorem Blk.alloc {w : World} {b : Nat} {C : Array Value} {T : TypeId} (h : Blk w b C T) (o : Obj) : Blk (w.alloc o) b C T := (heap_alloc_old w o h.lt).trans h
theorem Blk.drew {w : World} {b : Nat} {C : Array Value} {T : TypeId} (h : Blk w b C T) : Blk w.drew b C T := h
theorem Blk.under {w w' : World} {b B : Nat} {C : Array Value} {T : TypeId} (h : Blk w b C T) (hb : Below B w w') (hB : b < B) : Blk w' b C T := (hb.block b hB).trans h
theorem Blk.cell {w : World} {b : Nat} {C : Array Value} {T : TypeId} (h : Blk w b C T) (j : Nat) : w.cell? ⟨b, j, none⟩ = C[j]? := by
  unfold World.cell?
  rw [show w.heap[b]? = some (.cells C T (0, 0)) from h]
  simp
theorem Blk.free {w : World} {b : Nat} {C : Array Value} {T : TypeId} (h : Blk w b C T) (j : Nat) : w.frozen? ⟨b, j, none⟩ = false := by
  unfold World.frozen?
  rw [show w.heap[b]? = some (.cells C T (0, 0)) from h]
  simp
theorem Blk.far {w : World} {b : Nat} {C : Array Value} {T : TypeId} (h : Blk w b C T) (p : Addr) (v : Value) (hp : b ≠ p.block) : Blk (w.setCell p v) b C T := (Below.heap_setCell w p v b hp).trans h
theorem Blk.set {w : World} {b : Nat} {C : Array Value} {T : TypeId} (h : Blk w b C T) (i : Nat) (v : Value) : Blk (w.setCell ⟨b, i, none⟩ v) b (C.setIfInBounds i v) T := by
  have hlt := h.lt
  have h' : w.heap[b] = .cells C T (0, 0) := by simpa [Array.getElem?_eq_getElem hlt] using (show w.heap[b]? = some (.cells C T (0, 0)) from h)
  show (w.heap.modify b _)[b]? = _
  rw [Array.getElem?_eq_getElem (by simpa using hlt), Array.getElem_modify_self, h']
  rfl
theorem Blk.at {w : World} {b : Nat} {C : Array Value} {T : TypeId} (h : Blk w b C T) : BoxAt w b C := ⟨h.lt, h.cell⟩
theorem addN {b o : Nat} (n : Nat) : Addr.add ⟨b, o, none⟩ n = ⟨b, o + n, none⟩ := by
  unfold Addr.add
  split <;> simp_all
end Go.Proofs.YtjeldfipipkfiaaGreat
namespace Go.Proofs.YtjeldfipipkfiaaGreat
open Go.RowKit
set_option linter.unusedSimpArgs false
set_option linter.unusedVariables false
set_option maxHeartbeats 2000000 in
set_option maxRecDepth 100000 in
theorem cloneS_some (a : Addr) (n c : Nat) (xs : List Value) (w : World) (hz : xs.length = n * 1) (hbig : n ≤ 1000000) (hc : ∀ j u, xs[j]? = some u → w.cell? (a.add j) = some u) (h1 : ∀ u ∈ xs, u.oneCell' = true) :
    Calls Tryz.prog 99 #[.slice (some a) n c] w fun e w' => ∃ g c', e = .returned (.slice (some ⟨g, 0, none⟩) n c') ∧ w'.ownsRow w.heap.size 9 1 (.slice (some ⟨g, 0, none⟩) n c') n xs ∧ Below w.heap.size w w' := by
  obtain ⟨i0, hi, hz0, hz1, hz2⟩ := info_parts info_str
  have q22 : ∀ (w : World) (a : Option Addr) (n c n' c' : Nat), (binOp .eql 50 (.slice a n c) (.slice none n' c')).run Tryz.prog w = .ok (.bool a.isNone) w := fun w a n c n' c' => Lib.run_eql_slice_nil w _ _ a n c n' c' Tryz.underlying50
  have HC := Lib.hid hc
  clear hc
  go_enter Tryz.func99, Tryz.ntmps99
  go_wp2_with (at_builtin; refine wpList_append_own _ rfl _ _ 50 rfl w.heap.size 9 i0 (.string { data := #[] }) 1 16 Tryz.underlying50 hi hz0 hz1 hz2 rfl (by decide) _ _ _ rfl (World.ownsRow_made w #[] 0 (Nat.le_refl _) (Nat.zero_le _) rfl) a n c xs rfl ?qc1 ?qc2 ?qc3 ?qc4 ?qc5 ?qc6 ?_)
  case qc1 => exact hz
  case qc2 =>
    intro j u hj
    exact Lib.cell?_alloc_some _ (HC.out j u hj)
  case qc3 => exact h1
  case qc4 => unfold maxLen; omega
  case qc5 => omega
  case qc6 => simp
  intro v' w1 hown hgrow hnil
  go_wp2
  go_ret
  have hb : Below w.heap.size w w1 := ((Below.refl _ w).alloc (Nat.le_refl _) _).grown hgrow (by simp) (by intro k hk; simp [Value.ownBlock] at hk; omega)
  have hown' : w1.ownsRow w.heap.size 9 1 v' n xs := by simpa using hown
  obtain ⟨hl, ⟨rfl, h0⟩ | ⟨g, c', cur, rfl, hrest⟩⟩ := hown'
  · exact absurd rfl hnil
  · exact ⟨g, c', rfl, ⟨hl, .inr ⟨g, c', cur, rfl, hrest⟩⟩, hb⟩
theorem cloneS_nil (n c : Nat) (w : World) :
    Calls Tryz.prog 99 #[.slice none n c] w fun e w' => e = .returned (.slice none 0 0) ∧ w' = w := by
  have q22 : ∀ (w : World) (a : Option Addr) (n c n' c' : Nat), (binOp .eql 50 (.slice a n c) (.slice none n' c')).run Tryz.prog w = .ok (.bool a.isNone) w := fun w a n c n' c' => Lib.run_eql_slice_nil w _ _ a n c n' c' Tryz.underlying50
  go_enter Tryz.func99, Tryz.ntmps99
  go_wp2
  go_ret
  exact ⟨rfl, rfl⟩
end Go.Proofs.YtjeldfipipkfiaaGreat
