/- Words for memory: named types and interfaces (api.Named, api.Iface) that read as data; plain words for what merlonref08.Few says of them. Plain Lean; no condition. -/
import Derived.Test.YtjeldfipipkfiaaGreatGRefK
import Derived.Test.YtjeldfipipkfiaaGreatGMem
namespace Go.Proofs.YtjeldfipipkfiaaGreat
open Go.RowKit
set_option linter.unusedSimpArgs false
set_option linter.unusedVariables false
structure Nm where
  name : ByteArray
  ty : Ty
structure If where
  pkg : ByteArray
  major : Int
  mod : ByteArray
  types : List Nm
  vals : List Nm
def RowsK (K : Nat) (w : World) (B : Nat) (A : Option Addr) (n : Nat) (f : Nat → Array Value) : Prop :=
  n = 0 ∨ ∃ b o, A = some ⟨b, o, none⟩ ∧ b < B ∧ ∀ i, i < n → ∀ j, j < (f i).size → w.cell? ⟨b, o + i * K + j, none⟩ = (f i)[j]?
theorem RowsK.keep {K : Nat} {w w' : World} {B : Nat} {A : Option Addr} {n : Nat} {f : Nat → Array Value} (h : RowsK K w B A n f) (hk : ∀ p : Addr, p.block < B → w'.cell? p = w.cell? p) : RowsK K w' B A n f := by
  rcases h with h | ⟨b, o, h1, h2, h3⟩
  · exact .inl h
  · exact .inr ⟨b, o, h1, h2, fun i hi j hj => (hk _ h2).trans (h3 i hi j hj)⟩
theorem RowsK.mono {K : Nat} {w : World} {B B' : Nat} {A : Option Addr} {n : Nat} {f : Nat → Array Value} (h : RowsK K w B A n f) (hB : B ≤ B') : RowsK K w B' A n f := by
  rcases h with h | ⟨b, o, h1, h2, h3⟩
  · exact .inl h
  · exact .inr ⟨b, o, h1, by omega, h3⟩
def nmCells (n : Nm) (na : Option Addr) (nc : Nat) (sa : Option Addr) (sc : Nat) : Array Value :=
  #[.string n.name, .int .i64 n.ty.kind, .string n.ty.pkg, .int .i64 n.ty.major, .string n.ty.mod, .string n.ty.name, .slice na n.ty.names.length nc, .slice sa n.ty.subs.length sc]
def NmC (w : World) (B : Nat) (n : Nm) (cs : Array Value) : Prop := n.name.size ≤ maxLen ∧ ∃ na nc sa sc, cs = nmCells n na nc sa sc ∧ TyC w B n.ty (tyCells n.ty na nc sa sc)
theorem NmC.keep {w w' : World} {B : Nat} {n : Nm} {cs : Array Value} (h : NmC w B n cs) (hk : ∀ p : Addr, p.block < B → w'.cell? p = w.cell? p) : NmC w' B n cs := by
  obtain ⟨h0, na, nc, sa, sc, h1, h2⟩ := h
  exact ⟨h0, na, nc, sa, sc, h1, h2.keep hk⟩
theorem NmC.mono {w : World} {B B' : Nat} {n : Nm} {cs : Array Value} (h : NmC w B n cs) (hB : B ≤ B') : NmC w B' n cs := by
  obtain ⟨h0, na, nc, sa, sc, h1, h2⟩ := h
  exact ⟨h0, na, nc, sa, sc, h1, h2.mono hB⟩
def NmsAt (w : World) (B : Nat) (A : Option Addr) (l : List Nm) : Prop := ∃ f, RowsK 8 w B A l.length f ∧ ∀ i (h : i < l.length), NmC w B l[i] (f i)
theorem NmsAt.keep {w w' : World} {B : Nat} {A : Option Addr} {l : List Nm} (h : NmsAt w B A l) (hk : ∀ p : Addr, p.block < B → w'.cell? p = w.cell? p) : NmsAt w' B A l := by
  obtain ⟨f, h1, h2⟩ := h
  exact ⟨f, h1.keep hk, fun i hi => (h2 i hi).keep hk⟩
theorem NmsAt.mono {w : World} {B B' : Nat} {A : Option Addr} {l : List Nm} (h : NmsAt w B A l) (hB : B ≤ B') : NmsAt w B' A l := by
  obtain ⟨f, h1, h2⟩ := h
  exact ⟨f, h1.mono hB, fun i hi => (h2 i hi).mono hB⟩
theorem NmsAt.under {w w' : World} {B : Nat} {A : Option Addr} {l : List Nm} (h : NmsAt w B A l) (hb : Below B w w') : NmsAt w' B A l := h.keep fun _ hp => hb.cell hp
theorem NmsAt.alloc {w : World} {B : Nat} {A : Option Addr} {l : List Nm} (h : NmsAt w B A l) (hB : B ≤ w.heap.size) (o : Obj) : NmsAt (w.alloc o) B A l := h.keep fun _ hp => World.cell?_alloc_lt _ _ _ (by omega)
theorem NmsAt.nil (w : World) (B : Nat) (A : Option Addr) : NmsAt w B A [] := ⟨fun _ => #[], .inl rfl, fun i hi => absurd hi (by simp)⟩
theorem NmsAt.elem {w : World} {B : Nat} {A : Option Addr} {l : List Nm} (h : NmsAt w B A l) {k : Nat} (hk : k < l.length) {n : Nm} (hn : l[k] = n) :
    n.name.size ≤ maxLen ∧ ∃ b o na nc sa sc, A = some ⟨b, o, none⟩ ∧ b < B ∧ TyC w B n.ty (tyCells n.ty na nc sa sc) ∧
      w.cell? ⟨b, o + k * 8, none⟩ = some (.string n.name) ∧ w.cell? ⟨b, o + k * 8 + 1, none⟩ = some (.int .i64 n.ty.kind) ∧ w.cell? ⟨b, o + k * 8 + 2, none⟩ = some (.string n.ty.pkg) ∧ w.cell? ⟨b, o + k * 8 + 3, none⟩ = some (.int .i64 n.ty.major) ∧
      w.cell? ⟨b, o + k * 8 + 4, none⟩ = some (.string n.ty.mod) ∧ w.cell? ⟨b, o + k * 8 + 5, none⟩ = some (.string n.ty.name) ∧
      w.cell? ⟨b, o + k * 8 + 6, none⟩ = some (.slice na n.ty.names.length nc) ∧ w.cell? ⟨b, o + k * 8 + 7, none⟩ = some (.slice sa n.ty.subs.length sc) := by
  subst hn
  obtain ⟨f, h1, h2⟩ := h
  obtain ⟨h0, na, nc, sa, sc, hf, ht⟩ := h2 k hk
  rcases h1 with h1 | ⟨b, o, hA, hb, h⟩
  · omega
  · have e := fun j hj => h k hk j (by rw [hf]; exact hj)
    rw [hf] at e
    exact ⟨h0, b, o, na, nc, sa, sc, hA, hb, ht, e 0 (by simp [nmCells]), e 1 (by simp [nmCells]), e 2 (by simp [nmCells]), e 3 (by simp [nmCells]), e 4 (by simp [nmCells]), e 5 (by simp [nmCells]), e 6 (by simp [nmCells]), e 7 (by simp [nmCells])⟩
def ifCells (x : If) (ta : Option Addr) (tc : Nat) (va : Option Addr) (vc : Nat) : Array Value := #[.string x.pkg, .int .i64 x.major, .string x.mod, .slice ta x.types.length tc, .slice va x.vals.length vc]
structure IfFits (x : If) : Prop where
  pkg : x.pkg.size ≤ maxLen
  mod : x.mod.size ≤ maxLen
  major : -9223372036854775808 ≤ x.major ∧ x.major ≤ 9223372036854775807
  types : x.types.length ≤ maxLen
  vals : x.vals.length ≤ maxLen
def IfC (w : World) (B : Nat) (x : If) (cs : Array Value) : Prop := IfFits x ∧ ∃ ta tc va vc, cs = ifCells x ta tc va vc ∧ NmsAt w B ta x.types ∧ NmsAt w B va x.vals ∧ x.types.length ≤ tc ∧ x.vals.length ≤ vc
theorem IfC.keep {w w' : World} {B : Nat} {x : If} {cs : Array Value} (h : IfC w B x cs) (hk : ∀ p : Addr, p.block < B → w'.cell? p = w.cell? p) : IfC w' B x cs := by
  obtain ⟨h0, ta, tc, va, vc, h1, h2, h3, h4, h5⟩ := h
  exact ⟨h0, ta, tc, va, vc, h1, h2.keep hk, h3.keep hk, h4, h5⟩
theorem IfC.under {w w' : World} {B : Nat} {x : If} {cs : Array Value} (h : IfC w B x cs) (hb : Below B w w') : IfC w' B x cs := h.keep fun _ hp => hb.cell hp
theorem IfC.mono {w : World} {B B' : Nat} {x : If} {cs : Array Value} (h : IfC w B x cs) (hB : B ≤ B') : IfC w B' x cs := by
  obtain ⟨h0, ta, tc, va, vc, h1, h2, h3, h4, h5⟩ := h
  exact ⟨h0, ta, tc, va, vc, h1, h2.mono hB, h3.mono hB, h4, h5⟩
def IfsAt (w : World) (B : Nat) (A : Option Addr) (l : List If) : Prop := ∃ f, RowsK 5 w B A l.length f ∧ ∀ i (h : i < l.length), IfC w B l[i] (f i)
theorem IfsAt.keep {w w' : World} {B : Nat} {A : Option Addr} {l : List If} (h : IfsAt w B A l) (hk : ∀ p : Addr, p.block < B → w'.cell? p = w.cell? p) : IfsAt w' B A l := by
  obtain ⟨f, h1, h2⟩ := h
  exact ⟨f, h1.keep hk, fun i hi => (h2 i hi).keep hk⟩
theorem IfsAt.under {w w' : World} {B : Nat} {A : Option Addr} {l : List If} (h : IfsAt w B A l) (hb : Below B w w') : IfsAt w' B A l := h.keep fun _ hp => hb.cell hp
theorem IfsAt.mono {w : World} {B B' : Nat} {A : Option Addr} {l : List If} (h : IfsAt w B A l) (hB : B ≤ B') : IfsAt w B' A l := by
  obtain ⟨f, h1, h2⟩ := h
  exact ⟨f, h1.mono hB, fun i hi => (h2 i hi).mono hB⟩
theorem IfsAt.alloc {w : World} {B : Nat} {A : Option Addr} {l : List If} (h : IfsAt w B A l) (hB : B ≤ w.heap.size) (o : Obj) : IfsAt (w.alloc o) B A l := h.keep fun _ hp => World.cell?_alloc_lt _ _ _ (by omega)
theorem IfsAt.nil (w : World) (B : Nat) (A : Option Addr) : IfsAt w B A [] := ⟨fun _ => #[], .inl rfl, fun i hi => absurd hi (by simp)⟩
theorem IfsAt.elem {w : World} {B : Nat} {A : Option Addr} {l : List If} (h : IfsAt w B A l) {k : Nat} (hk : k < l.length) {x : If} (hx : l[k] = x) :
    IfFits x ∧ ∃ b o ta tc va vc, A = some ⟨b, o, none⟩ ∧ b < B ∧ NmsAt w B ta x.types ∧ NmsAt w B va x.vals ∧ x.types.length ≤ tc ∧ x.vals.length ≤ vc ∧
      w.cell? ⟨b, o + k * 5, none⟩ = some (.string x.pkg) ∧ w.cell? ⟨b, o + k * 5 + 1, none⟩ = some (.int .i64 x.major) ∧ w.cell? ⟨b, o + k * 5 + 2, none⟩ = some (.string x.mod) ∧
      w.cell? ⟨b, o + k * 5 + 3, none⟩ = some (.slice ta x.types.length tc) ∧ w.cell? ⟨b, o + k * 5 + 4, none⟩ = some (.slice va x.vals.length vc) := by
  subst hx
  obtain ⟨f, h1, h2⟩ := h
  obtain ⟨h0, ta, tc, va, vc, hf, ht, hv, hl1, hl2⟩ := h2 k hk
  rcases h1 with h1 | ⟨b, o, hA, hb, h⟩
  · omega
  · have e := fun j hj => h k hk j (by rw [hf]; exact hj)
    rw [hf] at e
    exact ⟨h0, b, o, ta, tc, va, vc, hA, hb, ht, hv, hl1, hl2, e 0 (by simp [ifCells]), e 1 (by simp [ifCells]), e 2 (by simp [ifCells]), e 3 (by simp [ifCells]), e 4 (by simp [ifCells])⟩
theorem all_bad {α : Type} {p : α → Bool} {l : List α} {k : Nat} (hk : k < l.length) (h : p l[k] = false) : l.all p = false := by
  rw [List.all_eq_false]
  exact ⟨l[k], List.getElem_mem hk, by simp [h]⟩
theorem all_take_snoc {α : Type} {p : α → Bool} {l : List α} {k : Nat} (hk : k < l.length) (h : (l.take k).all p = true) (h2 : p l[k] = true) : (l.take (k + 1)).all p = true := by
  rw [List.take_succ_eq_append_getElem hk, List.all_append, h]
  simp [h2]
theorem all_take_end {α : Type} {p : α → Bool} {l : List α} (h : (l.take l.length).all p = true) : l.all p = true := by
  rwa [List.take_length] at h
def fewN (l : List Nm) : Bool := l.all fun n => FewB n.ty
def fewX (x : If) : Bool := decide (x.types.length ≤ 200) && (decide (x.vals.length ≤ 200) && (fewN x.types && fewN x.vals))
def FewI (l : List If) : Bool := decide (l.length ≤ 200) && l.all fewX
end Go.Proofs.YtjeldfipipkfiaaGreat
namespace Go.Proofs.YtjeldfipipkfiaaGreat
open Go.RowKit
set_option linter.unusedSimpArgs false
set_option linter.unusedVariables false
structure Imp where
  pkg : ByteArray
  major : Int
  mod : ByteArray
  asN : ByteArray
structure Dcl where
  kind : Int
  name : ByteArray
  ty : Ty
structure Mdl where
  name : ByteArray
  imps : List Imp
  decls : List Dcl
def isT (s : ByteArray) (d : Dcl) : Bool := d.kind != 4 && (d.name.toList == s.toList)
def findD (ds : List Dcl) (s : ByteArray) : Option Nat := ds.findIdx? (isT s)
def hasD (ds : List Dcl) (s : ByteArray) : Bool := (findD ds s).isSome
mutual
def localsT : Ty → List Ty
  | .mk k p m mo n l ss => (if k = 8 then [.mk k p m mo n l ss] else []) ++ localsL ss
def localsL : List Ty → List Ty
  | [] => []
  | s :: ss => localsT s ++ localsL ss
end
theorem localsT_eq (t : Ty) : localsT t = (if t.kind = 8 then [t] else []) ++ localsL t.subs := by cases t; rw [localsT]; rfl
theorem localsL_app : ∀ (l m : List Ty), localsL (l ++ m) = localsL l ++ localsL m
  | [], m => by simp [localsL]
  | x :: l, m => by rw [List.cons_append, localsL, localsL, localsL_app l m, List.append_assoc]
theorem localsL_succ {l : List Ty} {k : Nat} (h : k < l.length) : localsL (l.take (k + 1)) = localsL (l.take k) ++ localsT l[k] := by
  rw [List.take_succ_eq_append_getElem h, localsL_app]
  simp [localsL]
def okL (ds : List Dcl) (l : Ty) : Bool := l.mod.toList.isEmpty && hasD ds l.name
def memN (out : List ByteArray) (s : ByteArray) : Bool := out.any fun x => x.toList == s.toList
theorem memN_iff {out : List ByteArray} {s : ByteArray} : memN out s = true ↔ s ∈ out := by
  rw [memN, List.any_eq_true]
  constructor
  · rintro ⟨x, hx, h⟩
    rw [ba_eq] at h
    exact (of_decide_eq_true h) ▸ hx
  · exact fun h => ⟨s, h, ba_yes rfl⟩
def addF (ds : List Dcl) (out : List ByteArray) (l : Ty) : List ByteArray := if (okL ds l && !memN out l.name) = true then out ++ [l.name] else out
def locF (ds : List Dcl) (out : List ByteArray) (ls : List Ty) : List ByteArray := ls.foldl (addF ds) out
def names0 (ds : List Dcl) (ls : List Ty) : List ByteArray := (ls.filter (okL ds)).map Ty.name
theorem addF_mem {ds : List Dcl} {out : List ByteArray} {l : Ty} {x : ByteArray} : x ∈ addF ds out l ↔ x ∈ out ∨ (okL ds l = true ∧ x = l.name) := by
  rw [addF]
  cases ho : okL ds l
  · simp
  · cases hm : memN out l.name
    · simp
    · rw [memN_iff] at hm
      simp
      rintro rfl
      exact hm
theorem locF_mem {ds : List Dcl} : ∀ {ls : List Ty} {out : List ByteArray} {x : ByteArray}, x ∈ locF ds out ls ↔ x ∈ out ∨ x ∈ names0 ds ls
  | [], out, x => by simp [locF, names0]
  | l :: ls, out, x => by
    have ih := locF_mem (ds := ds) (ls := ls) (out := addF ds out l) (x := x)
    rw [locF, List.foldl_cons] at *
    rw [ih, addF_mem]
    simp only [names0, List.filter_cons]
    cases ho : okL ds l
    · simp
    · simp only [true_and, if_pos, List.map_cons, List.mem_cons, or_assoc]
theorem addF_pre {ds : List Dcl} {out : List ByteArray} {l : Ty} : ∃ r, addF ds out l = out ++ r := by
  rw [addF]
  split
  · exact ⟨_, rfl⟩
  · exact ⟨[], by simp⟩
theorem locF_pre {ds : List Dcl} : ∀ {ls : List Ty} {out : List ByteArray}, ∃ r, locF ds out ls = out ++ r
  | [], out => ⟨[], by simp [locF]⟩
  | l :: ls, out => by
    obtain ⟨r1, h1⟩ := addF_pre (ds := ds) (out := out) (l := l)
    obtain ⟨r2, h2⟩ := locF_pre (ds := ds) (ls := ls) (out := addF ds out l)
    refine ⟨r1 ++ r2, ?_⟩
    rw [locF, List.foldl_cons]
    rw [locF] at h2
    rw [h2, h1, List.append_assoc]
theorem addF_nodup {ds : List Dcl} {out : List ByteArray} {l : Ty} (h : out.Nodup) : (addF ds out l).Nodup := by
  rw [addF]
  split
  · rename_i hc
    simp only [Bool.and_eq_true, Bool.not_eq_true'] at hc
    have hn : l.name ∉ out := fun hm => by rw [memN_iff.2 hm] at hc; exact absurd hc.2 (by decide)
    rw [List.nodup_append]
    refine ⟨h, by simp, fun a ha b hb => ?_⟩
    simp only [List.mem_singleton] at hb
    subst hb
    exact fun e => hn (e ▸ ha)
  · exact h
theorem locF_nodup {ds : List Dcl} : ∀ {ls : List Ty} {out : List ByteArray}, out.Nodup → (locF ds out ls).Nodup
  | [], _, h => h
  | l :: ls, out, h => by
    have := locF_nodup (ds := ds) (ls := ls) (addF_nodup (ds := ds) (l := l) h)
    rw [locF, List.foldl_cons]
    exact this
def nextD (ds : List Dcl) (s : ByteArray) : List Ty := match findD ds s with
  | some k => match ds[k]? with
    | some d => if d.kind = 3 then localsT d.ty else []
    | none => []
  | none => []
def mentL (ds : List Dcl) : Nat → Nat → List ByteArray → List ByteArray
  | 0, _, out => out
  | f + 1, i, out => if h : i < out.length then mentL ds f (i + 1) (locF ds out (nextD ds out[i])) else out
def mentF (ds : List Dcl) (t : Ty) : List ByteArray := mentL ds (ds.length + 1) 0 (locF ds [] (localsT t))
inductive Rch (ds : List Dcl) (t : Ty) : ByteArray → Prop
  | base {x : ByteArray} (h : x ∈ names0 ds (localsT t)) : Rch ds t x
  | step {x y : ByteArray} (h : Rch ds t y) (h2 : x ∈ names0 ds (nextD ds y)) : Rch ds t x
theorem names0_has {ds : List Dcl} {ls : List Ty} {x : ByteArray} (h : x ∈ names0 ds ls) : hasD ds x = true := by
  rw [names0, List.mem_map] at h
  obtain ⟨l, hl, rfl⟩ := h
  have := (List.mem_filter.1 hl).2
  rw [okL, Bool.and_eq_true] at this
  exact this.2
theorem has_mem {ds : List Dcl} {x : ByteArray} (h : hasD ds x = true) : x ∈ ds.map Dcl.name := by
  rw [hasD, findD, Option.isSome_iff_exists] at h
  obtain ⟨k, hk⟩ := h
  obtain ⟨hk1, hk2, -⟩ := List.findIdx?_eq_some_iff_getElem.1 hk
  rw [isT, Bool.and_eq_true, ba_eq] at hk2
  exact List.mem_map.2 ⟨ds[k], List.getElem_mem hk1, of_decide_eq_true hk2.2⟩
theorem nodup_len {l : List ByteArray} {m : List ByteArray} (h : l.Nodup) (hs : ∀ x ∈ l, x ∈ m) : l.length ≤ m.length := List.Nodup.length_le_of_subset h hs
theorem mentL_law (ds : List Dcl) (t : Ty) : ∀ (f i : Nat) (out : List ByteArray), out.Nodup → (∀ x ∈ out, Rch ds t x) → (∀ x ∈ names0 ds (localsT t), x ∈ out) →
    (∀ j (h : j < out.length), j < i → ∀ x ∈ names0 ds (nextD ds out[j]), x ∈ out) → ds.length + 1 ≤ f + i → i ≤ out.length →
    (mentL ds f i out).Nodup ∧ ∀ x, x ∈ mentL ds f i out ↔ Rch ds t x
  | 0, i, out, hn, hr, h0, hc, hf, hi => by
    exfalso
    have : out.length ≤ ds.length := by
      have := nodup_len (m := ds.map Dcl.name) hn fun x hx => has_mem (by
        cases hr x hx with
        | base h => exact names0_has h
        | step _ h => exact names0_has h)
      simpa using this
    omega
  | f + 1, i, out, hn, hr, h0, hc, hf, hi => by
    rw [mentL]
    split
    · rename_i hlt
      obtain ⟨r, hpre⟩ := locF_pre (ds := ds) (ls := nextD ds out[i]) (out := out)
      refine mentL_law ds t f (i + 1) _ (locF_nodup hn) ?_ ?_ ?_ (by omega) (by rw [hpre, List.length_append]; omega)
      · intro x hx
        rcases locF_mem.1 hx with hx | hx
        · exact hr x hx
        · exact .step (hr _ (List.getElem_mem hlt)) hx
      · exact fun x hx => locF_mem.2 (.inl (h0 x hx))
      · intro j hj hji x hx
        have hjo : j < out.length := by omega
        have e : (locF ds out (nextD ds out[i]))[j] = out[j] := by
          have : (locF ds out (nextD ds out[i]))[j]? = out[j]? := by rw [hpre, List.getElem?_append_left hjo]
          rw [List.getElem?_eq_getElem hj, List.getElem?_eq_getElem hjo] at this
          exact Option.some.inj this
        rw [e] at hx
        by_cases hji' : j = i
        · subst hji'
          exact locF_mem.2 (.inr hx)
        · exact locF_mem.2 (.inl (hc j hjo (by omega) x hx))
    · rename_i hge
      refine ⟨hn, fun x => ⟨hr x, fun h => ?_⟩⟩
      induction h with
      | base h => exact h0 _ h
      | step _ h2 ih =>
        obtain ⟨j, hj, rfl⟩ := List.getElem_of_mem ih
        exact hc j hj (by omega) _ h2
theorem mentF_law (ds : List Dcl) (t : Ty) : (mentF ds t).Nodup ∧ ∀ x, x ∈ mentF ds t ↔ Rch ds t x :=
  mentL_law ds t (ds.length + 1) 0 _ (locF_nodup (by simp)) (fun x hx => by
    rcases locF_mem.1 hx with hx | hx
    · cases hx
    · exact .base hx) (fun x hx => locF_mem.2 (.inr hx)) (fun j _ hj => absurd hj (by omega)) (by omega) (Nat.zero_le _)
end Go.Proofs.YtjeldfipipkfiaaGreat
namespace Go.Proofs.YtjeldfipipkfiaaGreat
open Go.RowKit
set_option linter.unusedSimpArgs false
set_option linter.unusedVariables false
def isVal (d : Dcl) : Bool := d.kind == 4
def likeD (x d : Dcl) : Bool := (x.name.toList == d.name.toList) && (isVal x == isVal d)
def knownL (m : Mdl) (l : Ty) : Bool := if l.mod.toList.isEmpty = true then hasD m.decls l.name else m.imps.any fun x => x.asN.toList == l.mod.toList
def unknownB (m : Mdl) (d : Dcl) : Bool := (localsT d.ty).any fun l => !knownL m l
def circleB (ds : List Dcl) (d : Dcl) : Bool := (d.kind == 3) && memN (mentF ds d.ty) d.name
def kindAt (ds : List Dcl) (s : ByteArray) : Int := match findD ds s with
  | some k => match ds[k]? with
    | some d => d.kind
    | none => 0
  | none => 0
def hiddenB (ds : List Dcl) (d : Dcl) : Bool := (d.kind == 3 || d.kind == 4) && (mentF ds d.ty).any fun s => kindAt ds s == 2
def twiceB (ds : List Dcl) (i : Nat) : Bool := match ds[i]? with
  | some d => (ds.take i).any fun x => likeD x d
  | none => false
def twiceI (l : List Imp) (i : Nat) : Bool := match l[i]? with
  | some d => (l.take i).any fun x => x.asN.toList == d.asN.toList
  | none => false
def badD (m : Mdl) (c : Int) (i : Nat) : Bool := match m.decls[i]? with
  | some d => if c = 5 then twiceB m.decls i else if c = 4 then unknownB m d else if c = 6 then circleB m.decls d else hiddenB m.decls d
  | none => false
def firstBad (m : Mdl) (c : Int) : Option Nat := (List.range m.decls.length).find? (badD m c)
def codes4 : List Int := [5, 4, 6, 10]
def amissF (m : Mdl) : Option (Int × Nat) :=
  match (List.range m.imps.length).find? (twiceI m.imps) with
  | some i => some (5, i)
  | none => codes4.findSome? fun c => (firstBad m c).map fun i => (c, i)
structure WellM (m : Mdl) : Prop where
  imps : ∀ i, i < m.imps.length → twiceI m.imps i = false
  once : ∀ i, i < m.decls.length → twiceB m.decls i = false
  known : ∀ d ∈ m.decls, unknownB m d = false
  circle : ∀ d ∈ m.decls, circleB m.decls d = false
  hidden : ∀ d ∈ m.decls, hiddenB m.decls d = false
theorem bad_mem {m : Mdl} {c : Int} {p : Dcl → Bool} (h : ∀ i (hi : i < m.decls.length), badD m c i = p m.decls[i]) : firstBad m c = none ↔ ∀ d ∈ m.decls, p d = false := by
  rw [firstBad, List.find?_eq_none]
  constructor
  · intro hn d hd
    obtain ⟨i, hi, rfl⟩ := List.getElem_of_mem hd
    have := hn i (List.mem_range.2 hi)
    rw [h i hi] at this
    simpa using this
  · intro hn i hi
    have hi := List.mem_range.1 hi
    rw [h i hi, hn _ (List.getElem_mem hi)]
    decide
theorem amiss_none {m : Mdl} : amissF m = none ↔ WellM m := by
  have e1 : ((List.range m.imps.length).find? (twiceI m.imps) = none) ↔ ∀ i, i < m.imps.length → twiceI m.imps i = false := by
    rw [List.find?_eq_none]
    constructor
    · intro h i hi; have := h i (List.mem_range.2 hi); simpa using this
    · intro h i hi; rw [h i (List.mem_range.1 hi)]; decide
  have e5 : firstBad m 5 = none ↔ ∀ i, i < m.decls.length → twiceB m.decls i = false := by
    rw [firstBad, List.find?_eq_none]
    constructor
    · intro h i hi
      have := h i (List.mem_range.2 hi)
      rw [badD, List.getElem?_eq_getElem hi] at this
      simpa using this
    · intro h i hi
      have hi := List.mem_range.1 hi
      rw [badD, List.getElem?_eq_getElem hi]
      simp [h i hi]
  have e4 : firstBad m 4 = none ↔ ∀ d ∈ m.decls, unknownB m d = false := bad_mem fun i hi => by rw [badD, List.getElem?_eq_getElem hi]; rfl
  have e6 : firstBad m 6 = none ↔ ∀ d ∈ m.decls, circleB m.decls d = false := bad_mem fun i hi => by rw [badD, List.getElem?_eq_getElem hi]; rfl
  have e10 : firstBad m 10 = none ↔ ∀ d ∈ m.decls, hiddenB m.decls d = false := bad_mem fun i hi => by rw [badD, List.getElem?_eq_getElem hi]; rfl
  rw [amissF]
  constructor
  · intro h
    split at h
    · cases h
    · rename_i hi
      rw [List.findSome?_eq_none_iff] at h
      have h5 := h 5 (by decide)
      have h4 := h 4 (by decide)
      have h6 := h 6 (by decide)
      have h10 := h 10 (by decide)
      rw [Option.map_eq_none_iff] at h5 h4 h6 h10
      exact ⟨e1.1 hi, e5.1 h5, e4.1 h4, e6.1 h6, e10.1 h10⟩
  · intro h
    rw [e1.2 h.imps]
    show (codes4.findSome? fun c => (firstBad m c).map fun i => (c, i)) = none
    rw [List.findSome?_eq_none_iff]
    intro c hc
    simp [codes4] at hc
    rcases hc with rfl | rfl | rfl | rfl
    · rw [e5.2 h.once]; rfl
    · rw [e4.2 h.known]; rfl
    · rw [e6.2 h.circle]; rfl
    · rw [e10.2 h.hidden]; rfl
theorem once_iff {ds : List Dcl} : (∀ i, i < ds.length → twiceB ds i = false) ↔ ds.Pairwise fun x d => likeD x d = false := by
  rw [List.pairwise_iff_getElem]
  constructor
  · intro h i j hi hj hij
    have := h j hj
    rw [twiceB, List.getElem?_eq_getElem hj] at this
    have h2 := List.any_eq_false.1 this ds[i] (by rw [List.mem_take_iff_getElem]; exact ⟨i, by omega, rfl⟩)
    simpa using h2
  · intro h j hj
    rw [twiceB, List.getElem?_eq_getElem hj]
    refine List.any_eq_false.2 fun x hx => ?_
    rw [List.mem_take_iff_getElem] at hx
    obtain ⟨i, hi, rfl⟩ := hx
    rw [h i j (by omega) hj (by omega)]
    decide
theorem likeD_symm (x d : Dcl) : likeD x d = likeD d x := by
  rw [likeD, likeD, ba_eq, ba_eq]
  have e1 : decide (x.name = d.name) = decide (d.name = x.name) := by by_cases h : x.name = d.name <;> simp [h, eq_comm]
  have e2 : (isVal x == isVal d) = (isVal d == isVal x) := by cases isVal x <;> cases isVal d <;> rfl
  rw [e1, e2]
def declOf (ds : List Dcl) (s : ByteArray) : Option Dcl := ds.find? (isT s)
theorem declOf_at {ds : List Dcl} {s : ByteArray} : declOf ds s = (findD ds s).bind fun k => ds[k]? := by
  rw [declOf, findD]
  cases h : ds.findIdx? (isT s) with
  | none =>
    rw [List.findIdx?_eq_none_iff] at h
    rw [List.find?_eq_none.2 fun x hx => by rw [h x hx]; decide]
    rfl
  | some k =>
    obtain ⟨hk1, hk2, hk3⟩ := List.findIdx?_eq_some_iff_getElem.1 h
    rw [List.find?_eq_some_iff_getElem.2 ⟨hk2, k, hk1, rfl, fun j hj => by have := hk3 j hj; simpa using this⟩]
    simp [hk1]
theorem hasD_of {ds : List Dcl} {s : ByteArray} : hasD ds s = (declOf ds s).isSome := by
  rw [declOf_at, hasD]
  cases h : findD ds s with
  | none => rfl
  | some k =>
    obtain ⟨hk1, -, -⟩ := List.findIdx?_eq_some_iff_getElem.1 h
    simp [hk1]
theorem nextD_of {ds : List Dcl} {s : ByteArray} : nextD ds s = match declOf ds s with
    | some d => if d.kind = 3 then localsT d.ty else []
    | none => [] := by
  rw [declOf_at, nextD]
  cases h : findD ds s with
  | none => rfl
  | some k =>
    obtain ⟨hk1, -, -⟩ := List.findIdx?_eq_some_iff_getElem.1 h
    simp [hk1]
theorem kindAt_of {ds : List Dcl} {s : ByteArray} : kindAt ds s = match declOf ds s with
    | some d => d.kind
    | none => 0 := by
  rw [declOf_at, kindAt]
  cases h : findD ds s with
  | none => rfl
  | some k =>
    obtain ⟨hk1, -, -⟩ := List.findIdx?_eq_some_iff_getElem.1 h
    simp [hk1]
def FindsAlike (ds ds' : List Dcl) : Prop := ∀ s, declOf ds s = declOf ds' s
theorem FindsAlike.names {ds ds' : List Dcl} (h : FindsAlike ds ds') (ls : List Ty) : names0 ds ls = names0 ds' ls := by
  have : okL ds = okL ds' := by
    funext l
    rw [okL, okL, hasD_of, hasD_of, h]
  rw [names0, names0, this]
theorem FindsAlike.next {ds ds' : List Dcl} (h : FindsAlike ds ds') (s : ByteArray) : nextD ds s = nextD ds' s := by rw [nextD_of, nextD_of, h]
theorem FindsAlike.rch {ds ds' : List Dcl} (h : FindsAlike ds ds') {t : Ty} {x : ByteArray} (hr : Rch ds t x) : Rch ds' t x := by
  induction hr with
  | base h1 => exact .base (by rw [← h.names]; exact h1)
  | step _ h2 ih => exact .step ih (by rw [← h.names, ← h.next]; exact h2)
theorem FindsAlike.symm {ds ds' : List Dcl} (h : FindsAlike ds ds') : FindsAlike ds' ds := fun s => (h s).symm
theorem FindsAlike.ment {ds ds' : List Dcl} (h : FindsAlike ds ds') (t : Ty) (x : ByteArray) : x ∈ mentF ds t ↔ x ∈ mentF ds' t := by
  rw [(mentF_law ds t).2, (mentF_law ds' t).2]
  exact ⟨h.rch, h.symm.rch⟩
theorem FindsAlike.circle {ds ds' : List Dcl} (h : FindsAlike ds ds') (d : Dcl) : circleB ds d = circleB ds' d := by
  rw [circleB, circleB]
  have : memN (mentF ds d.ty) d.name = memN (mentF ds' d.ty) d.name := by rw [Bool.eq_iff_iff, memN_iff, memN_iff, h.ment]
  rw [this]
theorem FindsAlike.hidden {ds ds' : List Dcl} (h : FindsAlike ds ds') (d : Dcl) : hiddenB ds d = hiddenB ds' d := by
  rw [hiddenB, hiddenB]
  have : ((mentF ds d.ty).any fun s => kindAt ds s == 2) = ((mentF ds' d.ty).any fun s => kindAt ds' s == 2) := by
    rw [Bool.eq_iff_iff, List.any_eq_true, List.any_eq_true]
    constructor
    · rintro ⟨x, hx, hk⟩; exact ⟨x, (h.ment _ _).1 hx, by rw [kindAt_of, ← h, ← kindAt_of]; exact hk⟩
    · rintro ⟨x, hx, hk⟩; exact ⟨x, (h.ment _ _).2 hx, by rw [kindAt_of, h, ← kindAt_of]; exact hk⟩
  rw [this]
theorem FindsAlike.unknown {m m' : Mdl} (h : FindsAlike m.decls m'.decls) (hi : m.imps = m'.imps) (d : Dcl) : unknownB m d = unknownB m' d := by
  have : knownL m = knownL m' := by
    funext l
    rw [knownL, knownL, hasD_of, hasD_of, h, hi]
  rw [unknownB, unknownB, this]
theorem perm_alike {ds ds' : List Dcl} (hp : ds.Perm ds') (ho : ds.Pairwise fun x d => likeD x d = false) : FindsAlike ds ds' := by
  intro s
  have uniq : ∀ x ∈ ds, ∀ y ∈ ds, isT s x = true → isT s y = true → x = y := by
    intro x hx y hy h1 h2
    obtain ⟨i, hi, rfl⟩ := List.getElem_of_mem hx
    obtain ⟨j, hj, rfl⟩ := List.getElem_of_mem hy
    rw [List.pairwise_iff_getElem] at ho
    have like : ∀ a b : Dcl, isT s a = true → isT s b = true → likeD a b = true := by
      intro a b ha hb
      rw [isT, Bool.and_eq_true, ba_eq, decide_eq_true_eq] at ha hb
      have va : isVal a = false := by have := ha.1; simpa [isVal] using this
      have vb : isVal b = false := by have := hb.1; simpa [isVal] using this
      rw [likeD, va, vb, ba_yes (ha.2.trans hb.2.symm)]; rfl
    rcases Nat.lt_trichotomy i j with hij | hij | hij
    · have := ho i j hi hj hij
      rw [like _ _ h1 h2] at this
      cases this
    · subst hij; rfl
    · have := ho j i hj hi hij
      rw [like _ _ h2 h1] at this
      cases this
  rw [declOf, declOf]
  cases h1 : ds.find? (isT s) with
  | none =>
    rw [List.find?_eq_none] at h1
    symm
    rw [List.find?_eq_none]
    exact fun x hx => h1 x (hp.mem_iff.2 hx)
  | some d =>
    have hd := List.mem_of_find?_eq_some h1
    have hs := List.find?_some h1
    cases h2 : ds'.find? (isT s) with
    | none => exact absurd hs (List.find?_eq_none.1 h2 d (hp.mem_iff.1 hd))
    | some d' => rw [uniq d hd d' (hp.mem_iff.2 (List.mem_of_find?_eq_some h2)) hs (List.find?_some h2)]
theorem well_perm {m m' : Mdl} (hi : m.imps = m'.imps) (hp : m.decls.Perm m'.decls) (h : WellM m) : WellM m' := by
  have ho := once_iff.1 h.once
  have ho' := (hp.pairwise_iff fun h => by rw [likeD_symm]; exact h).1 ho
  have hf := perm_alike hp ho
  exact ⟨by rw [← hi]; exact h.imps, once_iff.2 ho', fun d hd => by rw [← hf.unknown hi]; exact h.known d (hp.mem_iff.2 hd), fun d hd => by rw [← hf.circle]; exact h.circle d (hp.mem_iff.2 hd), fun d hd => by rw [← hf.hidden]; exact h.hidden d (hp.mem_iff.2 hd)⟩
theorem turns_law {m m' : Mdl} (hi : m.imps = m'.imps) (hp : m.decls.Perm m'.decls) : amissF m = none ↔ amissF m' = none := by
  rw [amiss_none, amiss_none]
  exact ⟨well_perm hi hp, well_perm hi.symm hp.symm⟩
end Go.Proofs.YtjeldfipipkfiaaGreat
namespace Go.Proofs.YtjeldfipipkfiaaGreat
open Go.RowKit
set_option linter.unusedSimpArgs false
set_option linter.unusedVariables false
def impCells (i : Imp) : Array Value := #[.string i.pkg, .int .i64 i.major, .string i.mod, .string i.asN]
structure ImpFits (i : Imp) : Prop where
  pkg : i.pkg.size ≤ maxLen
  mod : i.mod.size ≤ maxLen
  asN : i.asN.size ≤ maxLen
  major : -9223372036854775808 ≤ i.major ∧ i.major ≤ 9223372036854775807
def ImpsAt (w : World) (B : Nat) (A : Option Addr) (l : List Imp) : Prop := ∃ f, RowsK 4 w B A l.length f ∧ ∀ i (h : i < l.length), ImpFits l[i] ∧ f i = impCells l[i]
theorem ImpsAt.keep {w w' : World} {B : Nat} {A : Option Addr} {l : List Imp} (h : ImpsAt w B A l) (hk : ∀ p : Addr, p.block < B → w'.cell? p = w.cell? p) : ImpsAt w' B A l := by
  obtain ⟨f, h1, h2⟩ := h
  exact ⟨f, h1.keep hk, h2⟩
theorem ImpsAt.mono {w : World} {B B' : Nat} {A : Option Addr} {l : List Imp} (h : ImpsAt w B A l) (hB : B ≤ B') : ImpsAt w B' A l := by
  obtain ⟨f, h1, h2⟩ := h
  exact ⟨f, h1.mono hB, h2⟩
theorem ImpsAt.under {w w' : World} {B : Nat} {A : Option Addr} {l : List Imp} (h : ImpsAt w B A l) (hb : Below B w w') : ImpsAt w' B A l := h.keep fun _ hp => hb.cell hp
theorem ImpsAt.alloc {w : World} {B : Nat} {A : Option Addr} {l : List Imp} (h : ImpsAt w B A l) (hB : B ≤ w.heap.size) (o : Obj) : ImpsAt (w.alloc o) B A l := h.keep fun _ hp => World.cell?_alloc_lt _ _ _ (by omega)
theorem ImpsAt.nil (w : World) (B : Nat) (A : Option Addr) : ImpsAt w B A [] := ⟨fun _ => #[], .inl rfl, fun i hi => absurd hi (by simp)⟩
theorem ImpsAt.elem {w : World} {B : Nat} {A : Option Addr} {l : List Imp} (h : ImpsAt w B A l) {k : Nat} (hk : k < l.length) {x : Imp} (hx : l[k] = x) :
    ImpFits x ∧ ∃ b o, A = some ⟨b, o, none⟩ ∧ b < B ∧ w.cell? ⟨b, o + k * 4, none⟩ = some (.string x.pkg) ∧ w.cell? ⟨b, o + k * 4 + 1, none⟩ = some (.int .i64 x.major) ∧ w.cell? ⟨b, o + k * 4 + 2, none⟩ = some (.string x.mod) ∧ w.cell? ⟨b, o + k * 4 + 3, none⟩ = some (.string x.asN) := by
  subst hx
  obtain ⟨f, h1, h2⟩ := h
  obtain ⟨h0, hf⟩ := h2 k hk
  rcases h1 with h1 | ⟨b, o, hA, hb, h⟩
  · omega
  · have e := fun j hj => h k hk j (by rw [hf]; exact hj)
    rw [hf] at e
    exact ⟨h0, b, o, hA, hb, e 0 (by simp [impCells]), e 1 (by simp [impCells]), e 2 (by simp [impCells]), e 3 (by simp [impCells])⟩
def dclCells (d : Dcl) (na : Option Addr) (nc : Nat) (sa : Option Addr) (sc : Nat) : Array Value :=
  #[.int .i64 d.kind, .string d.name, .int .i64 d.ty.kind, .string d.ty.pkg, .int .i64 d.ty.major, .string d.ty.mod, .string d.ty.name, .slice na d.ty.names.length nc, .slice sa d.ty.subs.length sc]
structure DclFits (d : Dcl) : Prop where
  kind : -9223372036854775808 ≤ d.kind ∧ d.kind ≤ 9223372036854775807
  name : d.name.size ≤ maxLen
def DclC (w : World) (B : Nat) (d : Dcl) (cs : Array Value) : Prop := DclFits d ∧ ∃ na nc sa sc, cs = dclCells d na nc sa sc ∧ TyC w B d.ty (tyCells d.ty na nc sa sc)
theorem DclC.keep {w w' : World} {B : Nat} {d : Dcl} {cs : Array Value} (h : DclC w B d cs) (hk : ∀ p : Addr, p.block < B → w'.cell? p = w.cell? p) : DclC w' B d cs := by
  obtain ⟨h0, na, nc, sa, sc, h1, h2⟩ := h
  exact ⟨h0, na, nc, sa, sc, h1, h2.keep hk⟩
theorem DclC.mono {w : World} {B B' : Nat} {d : Dcl} {cs : Array Value} (h : DclC w B d cs) (hB : B ≤ B') : DclC w B' d cs := by
  obtain ⟨h0, na, nc, sa, sc, h1, h2⟩ := h
  exact ⟨h0, na, nc, sa, sc, h1, h2.mono hB⟩
def DclsAt (w : World) (B : Nat) (A : Option Addr) (l : List Dcl) : Prop := ∃ f, RowsK 9 w B A l.length f ∧ ∀ i (h : i < l.length), DclC w B l[i] (f i)
theorem DclsAt.keep {w w' : World} {B : Nat} {A : Option Addr} {l : List Dcl} (h : DclsAt w B A l) (hk : ∀ p : Addr, p.block < B → w'.cell? p = w.cell? p) : DclsAt w' B A l := by
  obtain ⟨f, h1, h2⟩ := h
  exact ⟨f, h1.keep hk, fun i hi => (h2 i hi).keep hk⟩
theorem DclsAt.mono {w : World} {B B' : Nat} {A : Option Addr} {l : List Dcl} (h : DclsAt w B A l) (hB : B ≤ B') : DclsAt w B' A l := by
  obtain ⟨f, h1, h2⟩ := h
  exact ⟨f, h1.mono hB, fun i hi => (h2 i hi).mono hB⟩
theorem DclsAt.under {w w' : World} {B : Nat} {A : Option Addr} {l : List Dcl} (h : DclsAt w B A l) (hb : Below B w w') : DclsAt w' B A l := h.keep fun _ hp => hb.cell hp
theorem DclsAt.alloc {w : World} {B : Nat} {A : Option Addr} {l : List Dcl} (h : DclsAt w B A l) (hB : B ≤ w.heap.size) (o : Obj) : DclsAt (w.alloc o) B A l := h.keep fun _ hp => World.cell?_alloc_lt _ _ _ (by omega)
theorem DclsAt.nil (w : World) (B : Nat) (A : Option Addr) : DclsAt w B A [] := ⟨fun _ => #[], .inl rfl, fun i hi => absurd hi (by simp)⟩
theorem DclsAt.elem {w : World} {B : Nat} {A : Option Addr} {l : List Dcl} (h : DclsAt w B A l) {k : Nat} (hk : k < l.length) {d : Dcl} (hd : l[k] = d) :
    DclFits d ∧ ∃ b o na nc sa sc, A = some ⟨b, o, none⟩ ∧ b < B ∧ TyC w B d.ty (tyCells d.ty na nc sa sc) ∧
      w.cell? ⟨b, o + k * 9, none⟩ = some (.int .i64 d.kind) ∧ w.cell? ⟨b, o + k * 9 + 1, none⟩ = some (.string d.name) ∧ w.cell? ⟨b, o + k * 9 + 2, none⟩ = some (.int .i64 d.ty.kind) ∧ w.cell? ⟨b, o + k * 9 + 3, none⟩ = some (.string d.ty.pkg) ∧
      w.cell? ⟨b, o + k * 9 + 4, none⟩ = some (.int .i64 d.ty.major) ∧ w.cell? ⟨b, o + k * 9 + 5, none⟩ = some (.string d.ty.mod) ∧ w.cell? ⟨b, o + k * 9 + 6, none⟩ = some (.string d.ty.name) ∧
      w.cell? ⟨b, o + k * 9 + 7, none⟩ = some (.slice na d.ty.names.length nc) ∧ w.cell? ⟨b, o + k * 9 + 8, none⟩ = some (.slice sa d.ty.subs.length sc) := by
  subst hd
  obtain ⟨f, h1, h2⟩ := h
  obtain ⟨h0, na, nc, sa, sc, hf, ht⟩ := h2 k hk
  rcases h1 with h1 | ⟨b, o, hA, hb, h⟩
  · omega
  · have e := fun j hj => h k hk j (by rw [hf]; exact hj)
    rw [hf] at e
    exact ⟨h0, b, o, na, nc, sa, sc, hA, hb, ht, e 0 (by simp [dclCells]), e 1 (by simp [dclCells]), e 2 (by simp [dclCells]), e 3 (by simp [dclCells]), e 4 (by simp [dclCells]), e 5 (by simp [dclCells]), e 6 (by simp [dclCells]), e 7 (by simp [dclCells]), e 8 (by simp [dclCells])⟩
def mdlCells (m : Mdl) (ia : Option Addr) (ic : Nat) (da : Option Addr) (dc : Nat) : Array Value := #[.string m.name, .slice ia m.imps.length ic, .slice da m.decls.length dc]
structure MdlC (w : World) (B : Nat) (m : Mdl) (ia : Option Addr) (ic : Nat) (da : Option Addr) (dc : Nat) : Prop where
  name : m.name.size ≤ maxLen
  imps : ImpsAt w B ia m.imps
  decls : DclsAt w B da m.decls
  nImps : m.imps.length ≤ maxLen
  nDecls : m.decls.length ≤ maxLen
  icap : m.imps.length ≤ ic
  dcap : m.decls.length ≤ dc
theorem MdlC.keep {w w' : World} {B : Nat} {m : Mdl} {ia : Option Addr} {ic : Nat} {da : Option Addr} {dc : Nat} (h : MdlC w B m ia ic da dc) (hk : ∀ p : Addr, p.block < B → w'.cell? p = w.cell? p) : MdlC w' B m ia ic da dc :=
  ⟨h.name, h.imps.keep hk, h.decls.keep hk, h.nImps, h.nDecls, h.icap, h.dcap⟩
theorem MdlC.under {w w' : World} {B : Nat} {m : Mdl} {ia : Option Addr} {ic : Nat} {da : Option Addr} {dc : Nat} (h : MdlC w B m ia ic da dc) (hb : Below B w w') : MdlC w' B m ia ic da dc := h.keep fun _ hp => hb.cell hp
theorem MdlC.alloc {w : World} {B : Nat} {m : Mdl} {ia : Option Addr} {ic : Nat} {da : Option Addr} {dc : Nat} (h : MdlC w B m ia ic da dc) (hB : B ≤ w.heap.size) (o : Obj) : MdlC (w.alloc o) B m ia ic da dc := h.keep fun _ hp => World.cell?_alloc_lt _ _ _ (by omega)
theorem MdlC.mono {w : World} {B B' : Nat} {m : Mdl} {ia : Option Addr} {ic : Nat} {da : Option Addr} {dc : Nat} (h : MdlC w B m ia ic da dc) (hB : B ≤ B') : MdlC w B' m ia ic da dc :=
  ⟨h.name, h.imps.mono hB, h.decls.mono hB, h.nImps, h.nDecls, h.icap, h.dcap⟩
end Go.Proofs.YtjeldfipipkfiaaGreat
namespace Go.Proofs.YtjeldfipipkfiaaGreat
open Go.RowKit
set_option linter.unusedSimpArgs false
set_option linter.unusedVariables false
def impOk (i : Imp) : Bool := smallB i.pkg && (smallB i.mod && (smallB i.asN && (decide (1 ≤ i.major) && decide (i.major ≤ 999999999))))
def nothingB (t : Ty) : Bool := (t.kind == 0) && (t.pkg.toList.isEmpty && ((t.major == 0) && (t.mod.toList.isEmpty && (t.name.toList.isEmpty && (decide (t.names.length = 0) && decide (t.subs.length = 0))))))
def dclOk (d : Dcl) : Bool := if d.kind = 1 ∨ d.kind = 2 then greatB d.name && nothingB d.ty else if d.kind = 3 then greatB d.name && mayT d.ty else if d.kind = 4 then smallB d.name && mayT d.ty else false
def mayM (m : Mdl) : Bool := smallB m.name && (decide (m.imps.length ≤ 20) && (decide (m.decls.length ≤ 60) && (m.imps.all impOk && m.decls.all dclOk)))
def checkF (m : Mdl) : Option (Int × Option Nat) := if mayM m = true then (amissF m).map fun p => (p.1, some p.2) else some (1, none)
theorem check_none {m : Mdl} : checkF m = none ↔ mayM m = true ∧ amissF m = none := by
  rw [checkF]
  by_cases h : mayM m = true
  · rw [if_pos h, Option.map_eq_none_iff]
    exact ⟨fun h2 => ⟨h, h2⟩, fun h2 => h2.2⟩
  · rw [if_neg h]
    exact ⟨fun h2 => (by cases h2), fun h2 => absurd h2.1 h⟩
theorem mayM_iff {m : Mdl} : mayM m = true ↔ smallB m.name = true ∧ m.imps.length ≤ 20 ∧ m.decls.length ≤ 60 ∧ (∀ i ∈ m.imps, impOk i = true) ∧ ∀ d ∈ m.decls, dclOk d = true := by
  simp only [mayM, Bool.and_eq_true, decide_eq_true_eq, List.all_eq_true]
theorem turnsC {m m' : Mdl} (hn : m.name = m'.name) (hi : m.imps = m'.imps) (hp : m.decls.Perm m'.decls) : checkF m = none ↔ checkF m' = none := by
  rw [check_none, check_none, turns_law hi hp, mayM_iff, mayM_iff, hn, hi, hp.length_eq]
  constructor
  · rintro ⟨⟨h1, h2, h3, h4, h5⟩, h6⟩
    exact ⟨⟨h1, h2, h3, h4, fun d hd => h5 d (hp.mem_iff.2 hd)⟩, h6⟩
  · rintro ⟨⟨h1, h2, h3, h4, h5⟩, h6⟩
    exact ⟨⟨h1, h2, h3, h4, fun d hd => h5 d (hp.mem_iff.1 hd)⟩, h6⟩
end Go.Proofs.YtjeldfipipkfiaaGreat
namespace Go.Proofs.YtjeldfipipkfiaaGreat
open Go.RowKit
set_option linter.unusedSimpArgs false
set_option linter.unusedVariables false
def reachF (ds : List Dcl) (t : Ty) (k : Nat) : Bool := (mentF ds t).any fun s => findD ds s == some k
theorem reachF_iff {ds : List Dcl} {t : Ty} {k : Nat} : reachF ds t k = true ↔ ∃ s, Rch ds t s ∧ findD ds s = some k := by
  rw [reachF, List.any_eq_true]
  constructor
  · rintro ⟨s, hs, h⟩; exact ⟨s, ((mentF_law ds t).2 s).1 hs, by simpa using h⟩
  · rintro ⟨s, hs, h⟩; exact ⟨s, ((mentF_law ds t).2 s).2 hs, by simpa using h⟩
theorem findD_name {ds : List Dcl} {s : ByteArray} {k : Nat} (h : findD ds s = some k) : ∃ hk : k < ds.length, ds[k].name = s ∧ ds[k].kind ≠ 4 := by
  obtain ⟨hk, h2, -⟩ := List.findIdx?_eq_some_iff_getElem.1 h
  rw [isT, Bool.and_eq_true, ba_eq, decide_eq_true_eq] at h2
  exact ⟨hk, h2.2, by simpa using h2.1⟩
theorem kindAt_some {ds : List Dcl} {s : ByteArray} {k : Nat} (h : findD ds s = some k) (hk : k < ds.length) : kindAt ds s = ds[k].kind := by
  rw [kindAt, h]
  show (match ds[k]? with | some d => d.kind | none => 0) = _
  rw [List.getElem?_eq_getElem hk]
theorem rch_has {ds : List Dcl} {t : Ty} {s : ByteArray} (h : Rch ds t s) : hasD ds s = true := by
  cases h with
  | base h => exact names0_has h
  | step _ h => exact names0_has h
def refCircle (ds : List Dcl) (d : Dcl) : Bool := (d.kind == 3) && match findD ds d.name with
  | some k => reachF ds d.ty k
  | none => false
def refHidden (ds : List Dcl) (d : Dcl) : Bool := (List.range ds.length).any fun k => reachF ds d.ty k && match ds[k]? with
  | some x => x.kind == 2
  | none => false
theorem nothing_locals {t : Ty} (h : nothingB t = true) : localsT t = [] := by
  simp only [nothingB, Bool.and_eq_true, beq_iff_eq, decide_eq_true_eq] at h
  obtain ⟨h1, -, -, -, -, -, h7⟩ := h
  rw [localsT_eq, if_neg (by rw [h1]; decide), List.eq_nil_of_length_eq_zero h7]
  rfl
theorem no_reach {ds : List Dcl} {t : Ty} (h : localsT t = []) {s : ByteArray} : ¬ Rch ds t s := by
  intro hr
  induction hr with
  | base h1 => rw [h] at h1; simp [names0] at h1
  | step _ _ ih => exact ih
def riseN (l : List ByteArray) (P : ByteArray → Prop) : Prop := l.Nodup ∧ ∀ x, x ∈ l ↔ P x
end Go.Proofs.YtjeldfipipkfiaaGreat
namespace Go.Proofs.YtjeldfipipkfiaaGreat
open Go.RowKit
set_option linter.unusedSimpArgs false
set_option linter.unusedVariables false
structure RInv (ds : List Dcl) (t : Ty) (l : List Ty) (out : List Bool) : Prop where
  len : out.length = ds.length
  sound : ∀ k, out[k]? = some true → reachF ds t k = true
  src : ∀ x ∈ l, x ∈ localsT t ∨ ∃ s, Rch ds t s ∧ x ∈ nextD ds s
  base : ∀ x ∈ localsT t, x ∈ l
  step : ∀ k (hk : k < ds.length), out[k]? = some true → ds[k].kind = 3 → ∀ x ∈ localsT ds[k].ty, x ∈ l
def hitR (ds : List Dcl) (out : List Bool) (x : Ty) : Prop := x.mod.toList.isEmpty = true → ∀ k, findD ds x.name = some k → out[k]? = some true
theorem nextD_at {ds : List Dcl} {s : ByteArray} {k : Nat} (h : findD ds s = some k) (hk : k < ds.length) : nextD ds s = if ds[k].kind = 3 then localsT ds[k].ty else [] := by
  rw [nextD, h]
  show (match ds[k]? with | some d => if d.kind = 3 then localsT d.ty else [] | none => []) = _
  rw [List.getElem?_eq_getElem hk]
theorem okL_rch {ds : List Dcl} {t : Ty} {l : List Ty} {out : List Bool} (h : RInv ds t l out) {x : Ty} (hx : x ∈ l) (hm : x.mod.toList.isEmpty = true) {k : Nat} (hk : findD ds x.name = some k) : Rch ds t x.name := by
  have ho : okL ds x = true := by rw [okL, hm, hasD, hk]; rfl
  have hin : ∀ L : List Ty, x ∈ L → x.name ∈ names0 ds L := fun L hL => by rw [names0, List.mem_map]; exact ⟨x, List.mem_filter.2 ⟨hL, ho⟩, rfl⟩
  rcases h.src x hx with h1 | ⟨s, hs, h1⟩
  · exact .base (hin _ h1)
  · exact .step hs (hin _ h1)
theorem RInv.add {ds : List Dcl} {t : Ty} {l : List Ty} {out : List Bool} (h : RInv ds t l out) {x : Ty} (hx : x ∈ l) (hm : x.mod.toList.isEmpty = true) {k : Nat} (hk : findD ds x.name = some k) (hkl : k < ds.length) :
    RInv ds t (if ds[k].kind = 3 then l ++ localsT ds[k].ty else l) (out.set k true) := by
  have hr := okL_rch h hx hm hk
  have hl : ∀ y ∈ l, y ∈ (if ds[k].kind = 3 then l ++ localsT ds[k].ty else l) := fun y hy => by split; exact List.mem_append.2 (.inl hy); exact hy
  refine ⟨by rw [List.length_set]; exact h.len, ?_, ?_, fun y hy => hl y (h.base y hy), ?_⟩
  · intro j hj
    by_cases e : k = j
    · subst e; exact reachF_iff.2 ⟨_, hr, hk⟩
    · rw [List.getElem?_set_ne e] at hj; exact h.sound j hj
  · intro y hy
    have : y ∈ l ∨ (ds[k].kind = 3 ∧ y ∈ localsT ds[k].ty) := by
      split at hy
      · rename_i h3
        rcases List.mem_append.1 hy with hy | hy
        · exact .inl hy
        · exact .inr ⟨h3, hy⟩
      · exact .inl hy
    rcases this with hy | ⟨h3, hy⟩
    · exact h.src y hy
    · exact .inr ⟨_, hr, by rw [nextD_at hk hkl, if_pos h3]; exact hy⟩
  · intro j hjl hj h3 y hy
    by_cases e : k = j
    · subst e; rw [if_pos h3]; exact List.mem_append.2 (.inr hy)
    · rw [List.getElem?_set_ne e] at hj; exact hl y (h.step j hjl hj h3 y hy)
theorem RInv.out {ds : List Dcl} {t : Ty} {l : List Ty} {out : List Bool} (h : RInv ds t l out) (hd : ∀ x ∈ l, hitR ds out x) : out = (List.range ds.length).map (reachF ds t) := by
  have key : ∀ s, Rch ds t s → ∀ k, findD ds s = some k → out[k]? = some true := by
    intro s hs
    induction hs with
    | base h1 =>
      intro k hk
      rw [names0, List.mem_map] at h1
      obtain ⟨y, hy, rfl⟩ := h1
      rw [List.mem_filter, okL, Bool.and_eq_true] at hy
      exact hd y (h.base y hy.1) hy.2.1 k hk
    | @step x y hr h2 ih =>
      intro k hk
      rw [names0, List.mem_map] at h2
      obtain ⟨z, hz, rfl⟩ := h2
      rw [List.mem_filter, okL, Bool.and_eq_true] at hz
      obtain ⟨j, hj⟩ := Option.isSome_iff_exists.1 (rch_has hr)
      obtain ⟨hjl, -, -⟩ := findD_name hj
      rw [nextD_at hj hjl] at hz
      by_cases h3 : ds[j].kind = 3
      · rw [if_pos h3] at hz
        exact hd z (h.step j hjl (ih j hj) h3 z hz.1) hz.2.1 k hk
      · rw [if_neg h3] at hz; cases hz.1
  refine List.ext_getElem (by rw [h.len]; simp) fun k h1 h2 => ?_
  rw [List.getElem_map, List.getElem_range]
  cases ho : out[k] with
  | true => exact (h.sound k (by rw [List.getElem?_eq_getElem h1, ho])).symm
  | false =>
    cases hr : reachF ds t k with
    | false => rfl
    | true =>
      obtain ⟨s, hs, hf⟩ := reachF_iff.1 hr
      have := key s hs k hf
      rw [List.getElem?_eq_getElem h1, ho] at this
      cases this
end Go.Proofs.YtjeldfipipkfiaaGreat
