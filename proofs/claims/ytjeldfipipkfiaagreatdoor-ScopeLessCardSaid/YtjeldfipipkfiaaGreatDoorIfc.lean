/- Words for memory: named types and interfaces (api.Named, api.Iface) that read as data; plain words for what merlonref08.Few says of them. Plain Lean; no condition. -/
import Derived.Test.YtjeldfipipkfiaaGreatDoorRefMay
namespace Go.Proofs.YtjeldfipipkfiaaGreatDoor
open Go.RowKit
set_option linter.unusedSimpArgs false
set_option linter.unusedVariables false
/-- a named type -/
structure Nm where
  name : ByteArray
  ty : Ty
/-- an interface -/
structure If where
  pkg : ByteArray
  major : Int
  mod : ByteArray
  types : List Nm
  vals : List Nm
/-- rows of K cells each -/
def RowsK (K : Nat) (w : World) (B : Nat) (A : Option Addr) (n : Nat) (f : Nat → Array Value) : Prop :=
  n = 0 ∨ ∃ b o, A = some ⟨b, o, none⟩ ∧ b < B ∧ ∀ i, i < n → ∀ j, j < (f i).size → w.cell? ⟨b, o + i * K + j, none⟩ = (f i)[j]?
theorem RowsK.keep {K : Nat} {w w' : World} {B : Nat} {A : Option Addr} {n : Nat} {f : Nat → Array Value} (h : RowsK K w B A n f) (hk : ∀ p : Addr, p.block < B → w'.cell? p = w.cell? p) : RowsK K w' B A n f := by
  rcases h with h | ⟨b, o, h1, h2, h3⟩
  · exact .inl h
  · exact .inr ⟨b, o, h1, h2, fun i hi j hj => (hk _ h2).trans (h3 i hi j hj)⟩
theorem RowsK.mono {K : Nat} {w : World} {B B' : Nat} {A : Option Addr} {n : Nat} {f : Nat → Array Value} (h : RowsK K w B A n f) (hB : B ≤ B') : RowsK K w B' A n f := by
  rcases h with h | ⟨b, o, h1, h2, h3⟩
  · exact .inl h
  · exact .inr ⟨b, o, h1, by omega, h3⟩
def nmCells (n : Nm) (na : Option Addr) (nc : Nat) (sa : Option Addr) (sc : Nat) : Array Value :=
  #[.string n.name, .int .i64 n.ty.kind, .string n.ty.pkg, .int .i64 n.ty.major, .string n.ty.mod, .string n.ty.name, .slice na n.ty.names.length nc, .slice sa n.ty.subs.length sc]
/-- the cells of a named type -/
def NmC (w : World) (B : Nat) (n : Nm) (cs : Array Value) : Prop := n.name.size ≤ maxLen ∧ ∃ na nc sa sc, cs = nmCells n na nc sa sc ∧ TyC w B n.ty (tyCells n.ty na nc sa sc)
theorem NmC.keep {w w' : World} {B : Nat} {n : Nm} {cs : Array Value} (h : NmC w B n cs) (hk : ∀ p : Addr, p.block < B → w'.cell? p = w.cell? p) : NmC w' B n cs := by
  obtain ⟨h0, na, nc, sa, sc, h1, h2⟩ := h
  exact ⟨h0, na, nc, sa, sc, h1, h2.keep hk⟩
theorem NmC.mono {w : World} {B B' : Nat} {n : Nm} {cs : Array Value} (h : NmC w B n cs) (hB : B ≤ B') : NmC w B' n cs := by
  obtain ⟨h0, na, nc, sa, sc, h1, h2⟩ := h
  exact ⟨h0, na, nc, sa, sc, h1, h2.mono hB⟩
/-- a row of named types, below block B -/
def NmsAt (w : World) (B : Nat) (A : Option Addr) (l : List Nm) : Prop := ∃ f, RowsK 8 w B A l.length f ∧ ∀ i (h : i < l.length), NmC w B l[i] (f i)
theorem NmsAt.keep {w w' : World} {B : Nat} {A : Option Addr} {l : List Nm} (h : NmsAt w B A l) (hk : ∀ p : Addr, p.block < B → w'.cell? p = w.cell? p) : NmsAt w' B A l := by
  obtain ⟨f, h1, h2⟩ := h
  exact ⟨f, h1.keep hk, fun i hi => (h2 i hi).keep hk⟩
theorem NmsAt.mono {w : World} {B B' : Nat} {A : Option Addr} {l : List Nm} (h : NmsAt w B A l) (hB : B ≤ B') : NmsAt w B' A l := by
  obtain ⟨f, h1, h2⟩ := h
  exact ⟨f, h1.mono hB, fun i hi => (h2 i hi).mono hB⟩
theorem NmsAt.under {w w' : World} {B : Nat} {A : Option Addr} {l : List Nm} (h : NmsAt w B A l) (hb : Below B w w') : NmsAt w' B A l := h.keep fun _ hp => hb.cell hp
theorem NmsAt.alloc {w : World} {B : Nat} {A : Option Addr} {l : List Nm} (h : NmsAt w B A l) (hB : B ≤ w.heap.size) (o : Obj) : NmsAt (w.alloc o) B A l := h.keep fun _ hp => World.cell?_alloc_lt _ _ _ (by omega)
theorem NmsAt.nil (w : World) (B : Nat) (A : Option Addr) : NmsAt w B A [] := ⟨fun _ => #[], .inl rfl, fun i hi => absurd hi (by simp)⟩
theorem NmsAt.elem {w : World} {B : Nat} {A : Option Addr} {l : List Nm} (h : NmsAt w B A l) {k : Nat} (hk : k < l.length) {n : Nm} (hn : l[k] = n) :
    n.name.size ≤ maxLen ∧ ∃ b o na nc sa sc, A = some ⟨b, o, none⟩ ∧ b < B ∧ TyC w B n.ty (tyCells n.ty na nc sa sc) ∧
      w.cell? ⟨b, o + k * 8, none⟩ = some (.string n.name) ∧ w.cell? ⟨b, o + k * 8 + 1, none⟩ = some (.int .i64 n.ty.kind) ∧ w.cell? ⟨b, o + k * 8 + 2, none⟩ = some (.string n.ty.pkg) ∧ w.cell? ⟨b, o + k * 8 + 3, none⟩ = some (.int .i64 n.ty.major) ∧
      w.cell? ⟨b, o + k * 8 + 4, none⟩ = some (.string n.ty.mod) ∧ w.cell? ⟨b, o + k * 8 + 5, none⟩ = some (.string n.ty.name) ∧
      w.cell? ⟨b, o + k * 8 + 6, none⟩ = some (.slice na n.ty.names.length nc) ∧ w.cell? ⟨b, o + k * 8 + 7, none⟩ = some (.slice sa n.ty.subs.length sc) := by
  subst hn
  obtain ⟨f, h1, h2⟩ := h
  obtain ⟨h0, na, nc, sa, sc, hf, ht⟩ := h2 k hk
  rcases h1 with h1 | ⟨b, o, hA, hb, h⟩
  · omega
  · have e := fun j hj => h k hk j (by rw [hf]; exact hj)
    rw [hf] at e
    exact ⟨h0, b, o, na, nc, sa, sc, hA, hb, ht, e 0 (by simp [nmCells]), e 1 (by simp [nmCells]), e 2 (by simp [nmCells]), e 3 (by simp [nmCells]), e 4 (by simp [nmCells]), e 5 (by simp [nmCells]), e 6 (by simp [nmCells]), e 7 (by simp [nmCells])⟩
def ifCells (x : If) (ta : Option Addr) (tc : Nat) (va : Option Addr) (vc : Nat) : Array Value := #[.string x.pkg, .int .i64 x.major, .string x.mod, .slice ta x.types.length tc, .slice va x.vals.length vc]
structure IfFits (x : If) : Prop where
  pkg : x.pkg.size ≤ maxLen
  mod : x.mod.size ≤ maxLen
  major : -9223372036854775808 ≤ x.major ∧ x.major ≤ 9223372036854775807
  types : x.types.length ≤ maxLen
  vals : x.vals.length ≤ maxLen
/-- the cells of an interface -/
def IfC (w : World) (B : Nat) (x : If) (cs : Array Value) : Prop := IfFits x ∧ ∃ ta tc va vc, cs = ifCells x ta tc va vc ∧ NmsAt w B ta x.types ∧ NmsAt w B va x.vals ∧ x.types.length ≤ tc ∧ x.vals.length ≤ vc
theorem IfC.keep {w w' : World} {B : Nat} {x : If} {cs : Array Value} (h : IfC w B x cs) (hk : ∀ p : Addr, p.block < B → w'.cell? p = w.cell? p) : IfC w' B x cs := by
  obtain ⟨h0, ta, tc, va, vc, h1, h2, h3, h4, h5⟩ := h
  exact ⟨h0, ta, tc, va, vc, h1, h2.keep hk, h3.keep hk, h4, h5⟩
theorem IfC.under {w w' : World} {B : Nat} {x : If} {cs : Array Value} (h : IfC w B x cs) (hb : Below B w w') : IfC w' B x cs := h.keep fun _ hp => hb.cell hp
theorem IfC.mono {w : World} {B B' : Nat} {x : If} {cs : Array Value} (h : IfC w B x cs) (hB : B ≤ B') : IfC w B' x cs := by
  obtain ⟨h0, ta, tc, va, vc, h1, h2, h3, h4, h5⟩ := h
  exact ⟨h0, ta, tc, va, vc, h1, h2.mono hB, h3.mono hB, h4, h5⟩
/-- a row of interfaces, below block B -/
def IfsAt (w : World) (B : Nat) (A : Option Addr) (l : List If) : Prop := ∃ f, RowsK 5 w B A l.length f ∧ ∀ i (h : i < l.length), IfC w B l[i] (f i)
theorem IfsAt.keep {w w' : World} {B : Nat} {A : Option Addr} {l : List If} (h : IfsAt w B A l) (hk : ∀ p : Addr, p.block < B → w'.cell? p = w.cell? p) : IfsAt w' B A l := by
  obtain ⟨f, h1, h2⟩ := h
  exact ⟨f, h1.keep hk, fun i hi => (h2 i hi).keep hk⟩
theorem IfsAt.under {w w' : World} {B : Nat} {A : Option Addr} {l : List If} (h : IfsAt w B A l) (hb : Below B w w') : IfsAt w' B A l := h.keep fun _ hp => hb.cell hp
theorem IfsAt.mono {w : World} {B B' : Nat} {A : Option Addr} {l : List If} (h : IfsAt w B A l) (hB : B ≤ B') : IfsAt w B' A l := by
  obtain ⟨f, h1, h2⟩ := h
  exact ⟨f, h1.mono hB, fun i hi => (h2 i hi).mono hB⟩
theorem IfsAt.alloc {w : World} {B : Nat} {A : Option Addr} {l : List If} (h : IfsAt w B A l) (hB : B ≤ w.heap.size) (o : Obj) : IfsAt (w.alloc o) B A l := h.keep fun _ hp => World.cell?_alloc_lt _ _ _ (by omega)
theorem IfsAt.nil (w : World) (B : Nat) (A : Option Addr) : IfsAt w B A [] := ⟨fun _ => #[], .inl rfl, fun i hi => absurd hi (by simp)⟩
theorem IfsAt.elem {w : World} {B : Nat} {A : Option Addr} {l : List If} (h : IfsAt w B A l) {k : Nat} (hk : k < l.length) {x : If} (hx : l[k] = x) :
    IfFits x ∧ ∃ b o ta tc va vc, A = some ⟨b, o, none⟩ ∧ b < B ∧ NmsAt w B ta x.types ∧ NmsAt w B va x.vals ∧ x.types.length ≤ tc ∧ x.vals.length ≤ vc ∧
      w.cell? ⟨b, o + k * 5, none⟩ = some (.string x.pkg) ∧ w.cell? ⟨b, o + k * 5 + 1, none⟩ = some (.int .i64 x.major) ∧ w.cell? ⟨b, o + k * 5 + 2, none⟩ = some (.string x.mod) ∧
      w.cell? ⟨b, o + k * 5 + 3, none⟩ = some (.slice ta x.types.length tc) ∧ w.cell? ⟨b, o + k * 5 + 4, none⟩ = some (.slice va x.vals.length vc) := by
  subst hx
  obtain ⟨f, h1, h2⟩ := h
  obtain ⟨h0, ta, tc, va, vc, hf, ht, hv, hl1, hl2⟩ := h2 k hk
  rcases h1 with h1 | ⟨b, o, hA, hb, h⟩
  · omega
  · have e := fun j hj => h k hk j (by rw [hf]; exact hj)
    rw [hf] at e
    exact ⟨h0, b, o, ta, tc, va, vc, hA, hb, ht, hv, hl1, hl2, e 0 (by simp [ifCells]), e 1 (by simp [ifCells]), e 2 (by simp [ifCells]), e 3 (by simp [ifCells]), e 4 (by simp [ifCells])⟩
theorem all_bad {α : Type} {p : α → Bool} {l : List α} {k : Nat} (hk : k < l.length) (h : p l[k] = false) : l.all p = false := by
  rw [List.all_eq_false]
  exact ⟨l[k], List.getElem_mem hk, by simp [h]⟩
theorem all_take_snoc {α : Type} {p : α → Bool} {l : List α} {k : Nat} (hk : k < l.length) (h : (l.take k).all p = true) (h2 : p l[k] = true) : (l.take (k + 1)).all p = true := by
  rw [List.take_succ_eq_append_getElem hk, List.all_append, h]
  simp [h2]
theorem all_take_end {α : Type} {p : α → Bool} {l : List α} (h : (l.take l.length).all p = true) : l.all p = true := by
  rwa [List.take_length] at h
/-- are they few enough to be gone through? -/
def fewN (l : List Nm) : Bool := l.all fun n => FewB n.ty
def fewX (x : If) : Bool := decide (x.types.length ≤ 200) && (decide (x.vals.length ≤ 200) && (fewN x.types && fewN x.vals))
def FewI (l : List If) : Bool := decide (l.length ≤ 200) && l.all fewX
end Go.Proofs.YtjeldfipipkfiaaGreatDoor
