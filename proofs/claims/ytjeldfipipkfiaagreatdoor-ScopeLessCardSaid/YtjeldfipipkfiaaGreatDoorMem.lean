/- Words for memory: a slice that reads as a list of strings; a struct api.Type that reads as a tree. Plain Lean; no condition. -/
import Derived.WalkKit
import Derived.WalkLawsBesides
import Derived.WalkSpells
import Derived.Handy
import Derived.Lib.Hide
import Derived.BigQuiet
namespace Go.Proofs.YtjeldfipipkfiaaGreatDoor
open Go.RowKit
theorem ret_b {a b : Bool} (h : a = b) : Ending.returned (.bool a) = Ending.returned (.bool b) := by rw [h]
theorem ret_i {k : IntKind} {a b : Int} (h : a = b) : Ending.returned (.int k a) = Ending.returned (.int k b) := by rw [h]
/-- a slice of strings that reads as a list, below block B -/
def StrsAt (w : World) (B : Nat) (A : Option Addr) (l : List ByteArray) : Prop :=
  l = [] ∨ ∃ b o, A = some ⟨b, o, none⟩ ∧ b < B ∧ ∀ i (h : i < l.length), w.cell? ⟨b, o + i, none⟩ = some (.string l[i])
theorem StrsAt.keep {w w' : World} {B : Nat} {A : Option Addr} {l : List ByteArray} (h : StrsAt w B A l) (hk : ∀ p : Addr, p.block < B → w'.cell? p = w.cell? p) : StrsAt w' B A l := by
  rcases h with h | ⟨b, o, h1, h2, h3⟩
  · exact .inl h
  · exact .inr ⟨b, o, h1, h2, fun i hi => (hk _ h2).trans (h3 i hi)⟩
theorem ba_eq (a b : ByteArray) : (a.toList == b.toList) = decide (a = b) := by
  rw [Bool.eq_iff_iff, beq_iff_eq, decide_eq_true_eq, ByteArray.toList_eq, ByteArray.toList_eq]
  constructor
  · intro h
    cases a; cases b
    simpa [Array.toList_inj] using h
  · rintro rfl; rfl
theorem ba_yes {a b : ByteArray} (h : a = b) : (a.toList == b.toList) = true := by rw [ba_eq]; simpa using h
theorem ba_no {a b : ByteArray} (h : a ≠ b) : (a.toList == b.toList) = false := by rw [ba_eq]; simpa using h

theorem StrsAt.mono {w : World} {B B' : Nat} {A : Option Addr} {l : List ByteArray} (h : StrsAt w B A l) (hB : B ≤ B') : StrsAt w B' A l := by
  rcases h with h | ⟨b, o, h1, h2, h3⟩
  · exact .inl h
  · exact .inr ⟨b, o, h1, by omega, h3⟩
theorem acc0 {B : Nat} {w a c : World} (h : Below B w a) (hB : B ≤ a.heap.size) (hb : Below a.heap.size a c) : Below B w c := h.trans (hb.mono hB)
theorem acc1 {B : Nat} {w a c : World} {o : Obj} (h : Below B w a) (hB : B ≤ a.heap.size) (hb : Below (a.alloc o).heap.size (a.alloc o) c) : Below B w c :=
  (h.alloc hB o).trans (hb.mono (Nat.le_trans hB (by simp)))

/-- a type (api.Type) as a tree -/
inductive Ty where
  | mk (kind : Int) (pkg : ByteArray) (major : Int) (mod name : ByteArray) (names : List ByteArray) (subs : List Ty)
namespace Ty
def kind : Ty → Int | mk k _ _ _ _ _ _ => k
def pkg : Ty → ByteArray | mk _ p _ _ _ _ _ => p
def major : Ty → Int | mk _ _ m _ _ _ _ => m
def mod : Ty → ByteArray | mk _ _ _ m _ _ _ => m
def name : Ty → ByteArray | mk _ _ _ _ n _ _ => n
def names : Ty → List ByteArray | mk _ _ _ _ _ l _ => l
def subs : Ty → List Ty | mk _ _ _ _ _ _ l => l
theorem eta : ∀ t : Ty, t = mk t.kind t.pkg t.major t.mod t.name t.names t.subs | mk .. => rfl
theorem size_sub (t s : Ty) (h : s ∈ t.subs) : SizeOf.sizeOf s < SizeOf.sizeOf t := by
  cases t with
  | mk k p m mo n l ss =>
    have := List.sizeOf_lt_of_mem h
    simp only [mk.sizeOf_spec]
    simp only [subs] at this
    omega
theorem ind {P : Ty → Prop} (h : ∀ t, (∀ s ∈ t.subs, P s) → P t) (t : Ty) : P t := by
  suffices ∀ (n : Nat) (t : Ty), SizeOf.sizeOf t < n → P t from this (SizeOf.sizeOf t + 1) t (Nat.lt_succ_self _)
  intro n
  induction n with
  | zero => intro t ht; omega
  | succ n ih => exact fun t ht => h t fun s hs => ih s (by have := size_sub t s hs; omega)
end Ty
/-- the numbers and texts of a type fit Go's -/
structure Fits (t : Ty) : Prop where
  kind : -9223372036854775808 ≤ t.kind ∧ t.kind ≤ 9223372036854775807
  major : -9223372036854775808 ≤ t.major ∧ t.major ≤ 9223372036854775807
  pkg : t.pkg.size ≤ maxLen
  mod : t.mod.size ≤ maxLen
  name : t.name.size ≤ maxLen
  names : t.names.length ≤ maxLen
  each : ∀ s ∈ t.names, s.size ≤ maxLen
  subs : t.subs.length ≤ maxLen
def tyCells (t : Ty) (na : Option Addr) (nc : Nat) (sa : Option Addr) (sc : Nat) : Array Value :=
  #[.int .i64 t.kind, .string t.pkg, .int .i64 t.major, .string t.mod, .string t.name, .slice na t.names.length nc, .slice sa t.subs.length sc]
/-- the elements of a slice of structs of seven cells -/
def RowsAt (w : World) (B : Nat) (A : Option Addr) (n : Nat) (f : Nat → Array Value) : Prop :=
  n = 0 ∨ ∃ b o, A = some ⟨b, o, none⟩ ∧ b < B ∧ ∀ i, i < n → ∀ j, j < (f i).size → w.cell? ⟨b, o + i * 7 + j, none⟩ = (f i)[j]?
/-- the cells of a struct api.Type, and the memory behind them, read as a tree; the memory lies below block B -/
inductive TyC (w : World) (B : Nat) : Ty → Array Value → Prop
  | mk (t : Ty) (na : Option Addr) (nc : Nat) (sa : Option Addr) (sc : Nat) (f : Nat → Array Value) (hf : Fits t) (hn : StrsAt w B na t.names) (hs : RowsAt w B sa t.subs.length f)
      (hnc : t.names.length ≤ nc) (hsc : t.subs.length ≤ sc) (hsub : ∀ i (h : i < t.subs.length), TyC w B t.subs[i] (f i)) : TyC w B t (tyCells t na nc sa sc)
theorem RowsAt.keep {w w' : World} {B : Nat} {A : Option Addr} {n : Nat} {f : Nat → Array Value} (h : RowsAt w B A n f) (hk : ∀ p : Addr, p.block < B → w'.cell? p = w.cell? p) : RowsAt w' B A n f := by
  rcases h with h | ⟨b, o, h1, h2, h3⟩
  · exact .inl h
  · exact .inr ⟨b, o, h1, h2, fun i hi j hj => (hk _ h2).trans (h3 i hi j hj)⟩
theorem RowsAt.mono {w : World} {B B' : Nat} {A : Option Addr} {n : Nat} {f : Nat → Array Value} (h : RowsAt w B A n f) (hB : B ≤ B') : RowsAt w B' A n f := by
  rcases h with h | ⟨b, o, h1, h2, h3⟩
  · exact .inl h
  · exact .inr ⟨b, o, h1, by omega, h3⟩
theorem TyC.keep {w w' : World} {B : Nat} {t : Ty} {cs : Array Value} (h : TyC w B t cs) (hk : ∀ p : Addr, p.block < B → w'.cell? p = w.cell? p) : TyC w' B t cs := by
  induction h with
  | mk t na nc sa sc f hf hn hs hnc hsc _ ih => exact .mk t na nc sa sc f hf (hn.keep hk) (hs.keep hk) hnc hsc ih
theorem TyC.mono {w : World} {B B' : Nat} {t : Ty} {cs : Array Value} (h : TyC w B t cs) (hB : B ≤ B') : TyC w B' t cs := by
  induction h with
  | mk t na nc sa sc f hf hn hs hnc hsc _ ih => exact .mk t na nc sa sc f hf (hn.mono hB) (hs.mono hB) hnc hsc ih
theorem TyC.under {w w' : World} {B : Nat} {t : Ty} {cs : Array Value} (h : TyC w B t cs) (hb : Below B w w') : TyC w' B t cs := h.keep fun _ hp => hb.cell hp
theorem TyC.alloc {w : World} {B : Nat} {t : Ty} {cs : Array Value} (h : TyC w B t cs) (hB : B ≤ w.heap.size) (o : Obj) : TyC (w.alloc o) B t cs := h.keep fun _ hp => World.cell?_alloc_lt _ _ _ (by omega)
theorem TyC.setCell {w : World} {B : Nat} {t : Ty} {cs : Array Value} (h : TyC w B t cs) {p : Addr} (hp : B ≤ p.block) (u : Value) : TyC (w.setCell p u) B t cs :=
  h.keep fun q hq => World.cell?_setCell_other w p q u (fun e => by subst e; omega)
theorem StrsAt.under {w w' : World} {B : Nat} {A : Option Addr} {l : List ByteArray} (h : StrsAt w B A l) (hb : Below B w w') : StrsAt w' B A l := h.keep fun _ hp => hb.cell hp
theorem StrsAt.alloc {w : World} {B : Nat} {A : Option Addr} {l : List ByteArray} (h : StrsAt w B A l) (hB : B ≤ w.heap.size) (o : Obj) : StrsAt (w.alloc o) B A l := h.keep fun _ hp => World.cell?_alloc_lt _ _ _ (by omega)
/-- one element of a slice of types, its cells written out -/
theorem TyC.inv {w : World} {B : Nat} {t : Ty} {cs : Array Value} (h : TyC w B t cs) : ∃ na nc sa sc f, cs = tyCells t na nc sa sc ∧ Fits t ∧ StrsAt w B na t.names ∧ RowsAt w B sa t.subs.length f ∧ t.names.length ≤ nc ∧ t.subs.length ≤ sc ∧
    ∀ i (h : i < t.subs.length), TyC w B t.subs[i] (f i) := by
  cases h with
  | mk _ na nc sa sc f hf hn hs hnc hsc hsub => exact ⟨na, nc, sa, sc, f, rfl, hf, hn, hs, hnc, hsc, hsub⟩
/-- behind a call: the block that was laid just ahead of it holds what it held -/
theorem box_keep {w w1 : World} {C : Array Value} {T : TypeId} (hb : Below (w.alloc (.cells C T)).heap.size (w.alloc (.cells C T)) w1) :
    (∀ j, w1.cell? ⟨w.heap.size, j, none⟩ = C[j]?) ∧ w.heap.size < w1.heap.size ∧ Below w.heap.size w w1 :=
  ⟨fun j => (hb.cell (p := ⟨w.heap.size, j, none⟩) (by simp)).trans (by simp), by have := hb.size; simp at this; omega,
    ((Below.refl _ _).alloc (Nat.le_refl _) _).trans (hb.mono (by simp))⟩
theorem box_frozen {w w1 : World} {C : Array Value} {T : TypeId} (hb : Below (w.alloc (.cells C T)).heap.size (w.alloc (.cells C T)) w1) (j : Nat) : w1.frozen? ⟨w.heap.size, j, none⟩ = false := by
  rw [hb.frozen (p := ⟨w.heap.size, j, none⟩) (by simp)]
  unfold World.frozen?
  rw [heap_alloc_new]
  simp
/-- a block of the call's own whose cells are known -/
def BoxAt (w : World) (b : Nat) (C : Array Value) : Prop := b < w.heap.size ∧ ∀ j, w.cell? ⟨b, j, none⟩ = C[j]?
theorem BoxAt.new (w : World) (C : Array Value) (T : TypeId) : BoxAt (w.alloc (.cells C T)) w.heap.size C := ⟨by simp, fun j => by simp⟩
theorem BoxAt.alloc {w : World} {b : Nat} {C : Array Value} (h : BoxAt w b C) (o : Obj) : BoxAt (w.alloc o) b C :=
  ⟨by have := h.1; simp; omega, fun j => (World.cell?_alloc_lt _ _ _ h.1).trans (h.2 j)⟩
theorem BoxAt.under {w w' : World} {b : Nat} {C : Array Value} (h : BoxAt w b C) (hb : Below w.heap.size w w') : BoxAt w' b C :=
  ⟨Nat.lt_of_lt_of_le h.1 hb.size, fun j => (hb.cell (p := ⟨b, j, none⟩) h.1).trans (h.2 j)⟩
/-- element k of a slice of types: its address, its seven cells -/
theorem TyC.elem {w : World} {B : Nat} {A : Option Addr} {n : Nat} {f : Nat → Array Value} (hs : RowsAt w B A n f) {k : Nat} (hk : k < n) {s : Ty} (hc : TyC w B s (f k)) :
    ∃ b o na nc sa sc, A = some ⟨b, o, none⟩ ∧ b < B ∧ f k = tyCells s na nc sa sc ∧
      w.cell? ⟨b, o + k * 7, none⟩ = some (.int .i64 s.kind) ∧ w.cell? ⟨b, o + k * 7 + 1, none⟩ = some (.string s.pkg) ∧ w.cell? ⟨b, o + k * 7 + 2, none⟩ = some (.int .i64 s.major) ∧
      w.cell? ⟨b, o + k * 7 + 3, none⟩ = some (.string s.mod) ∧ w.cell? ⟨b, o + k * 7 + 4, none⟩ = some (.string s.name) ∧
      w.cell? ⟨b, o + k * 7 + 5, none⟩ = some (.slice na s.names.length nc) ∧ w.cell? ⟨b, o + k * 7 + 6, none⟩ = some (.slice sa s.subs.length sc) := by
  obtain ⟨na, nc, sa, sc, g, hfk, -⟩ := hc.inv
  rcases hs with hs | ⟨b, o, hA, hb, h⟩
  · omega
  · have hz : (f k).size = 7 := by rw [hfk]; rfl
    have e := fun j hj => h k hk j (by rw [hz]; exact hj)
    rw [hfk] at e
    exact ⟨b, o, na, nc, sa, sc, hA, hb, hfk, e 0 (by omega), e 1 (by omega), e 2 (by omega), e 3 (by omega), e 4 (by omega), e 5 (by omega), e 6 (by omega)⟩
end Go.Proofs.YtjeldfipipkfiaaGreatDoor
