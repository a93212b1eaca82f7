/- The contract of sub.copied: the same tree in memory of the call's own. -/
import Derived.Test.YtjeldfipipkfiaaGreatGMem
import Derived.Test.YtjeldfipipkfiaaGreatGSub
import Derived.Deep.RegionHeld3
import Derived.Deep.RegionLaw
import Derived.StillTailTactics
namespace Go.Proofs.YtjeldfipipkfiaaGreat
open Go.RowKit
set_option linter.unusedSimpArgs false
set_option linter.unusedVariables false
def Fresh (w w' : World) : Nat → Prop := fun b => w.heap.size ≤ b ∧ b < w'.heap.size
theorem cloneS_c (A : Option Addr) (c B : Nat) (l : List ByteArray) (w : World) (h : StrsAt w B A l) (hl : l.length ≤ 1000000) :
    Calls Tryz.prog 99 #[.slice A l.length c] w fun e w' => (∃ A' c', e = .returned (.slice A' l.length c') ∧ l.length ≤ c' ∧ StrsM w' (Fresh w w') A' l) ∧ Below w.heap.size w w' := by
  cases A with
  | none =>
    rcases h with rfl | ⟨b, o, hA, -⟩
    · refine (cloneS_nil 0 c w).mono ?_
      rintro e w' ⟨rfl, rfl⟩
      exact ⟨⟨none, 0, rfl, Nat.le_refl _, .inl rfl⟩, Below.refl _ _⟩
    · cases hA
  | some a =>
    refine (cloneS_some a l.length c (l.map Value.string) w (by simp) hl ?_ ?_).mono ?_
    · intro j u hu
      rcases h with rfl | ⟨b, o, hA, -, hc⟩
      · simp at hu
      · cases hA
        have hj : j < l.length := by have := (List.getElem?_eq_some_iff.1 hu).1; simpa using this
        rw [addN, hc j hj, ← hu]
        simp [hj]
    · intro u hu
      obtain ⟨x, -, rfl⟩ := List.mem_map.1 hu
      rfl
    · rintro e w' ⟨g, c', rfl, hown, hb⟩
      refine ⟨⟨some ⟨g, 0, none⟩, c', rfl, ?_, ?_⟩, hb⟩
      · obtain ⟨-, ⟨h0, -⟩ | ⟨g', cap', cur, hv, -, -, hn, -⟩⟩ := hown
        · simp at h0
        · simp at hv; omega
      · by_cases h0 : l = []
        · exact .inl h0
        · refine .inr ⟨g, 0, rfl, ?_, fun i hi => ?_⟩
          · obtain ⟨-, ⟨h0, -⟩ | ⟨g', cap', cur, hv, hg, hh, hn, -⟩⟩ := hown
            · simp at h0
            · simp at hv
              obtain ⟨rfl, -⟩ := hv
              exact ⟨hg, (Array.getElem?_eq_some_iff.1 hh).1⟩
          · rw [owns_cell hown (by omega), Nat.zero_add]
            simp [hi]
structure CopyRel (w wr : World) (t : Ty) (f : Nat → Array Value) (A1 : Option Addr) (c1 : Nat) (A2 : Option Addr) (c2 g k : Nat) : Prop where
  below : Below w.heap.size w wr
  size : w.heap.size + 2 ≤ wr.heap.size
  box : Blk wr w.heap.size #[.int .i64 t.kind, .string t.pkg, .int .i64 t.major, .string t.mod, .string t.name, .slice A1 t.names.length c1, .slice A2 t.subs.length c2] 53
  zero : Blk wr (w.heap.size + 1) #[.int .i64 0, .string { data := #[] }, .int .i64 0, .string { data := #[] }, .string { data := #[] }, .slice none 0 0, .slice none 0 0] 53
  cap1 : t.names.length ≤ c1
  cap2 : t.subs.length ≤ c2
  names : StrsM wr (fun b => w.heap.size + 2 ≤ b ∧ b < wr.heap.size ∧ b ≠ g) A1 t.names
  row : t.subs.length = 0 ∨ (A2 = some ⟨g, 0, none⟩ ∧ w.heap.size + 2 ≤ g ∧ ∃ (cur : Array Value) (G : Nat → Array Value), Blk wr g cur 53 ∧ (∀ i, i < t.subs.length → ∀ j, j < 7 → cur[i * 7 + j]? = (G i)[j]?) ∧ (∀ i, i < t.subs.length → (G i).size = 7) ∧
    (∀ i (h : i < t.subs.length), i < k → TyM wr (fun b => w.heap.size + 2 ≤ b ∧ b < wr.heap.size ∧ b ≠ g) t.subs[i] (G i)) ∧ (∀ i, k ≤ i → i < t.subs.length → G i = f i))
theorem CopyRel.done {w wr : World} {t : Ty} {f : Nat → Array Value} {A1 : Option Addr} {c1 : Nat} {A2 : Option Addr} {c2 g : Nat} (h : CopyRel w wr t f A1 c1 A2 c2 g t.subs.length) (hf : Fits t) : TyM wr (fun b => w.heap.size + 2 ≤ b ∧ b < wr.heap.size) t (tyCells t A1 c1 A2 c2) := by
  have hM : ∀ b, (w.heap.size + 2 ≤ b ∧ b < wr.heap.size ∧ b ≠ g) → (w.heap.size + 2 ≤ b ∧ b < wr.heap.size) := fun b hb => ⟨hb.1, hb.2.1⟩
  have hn : StrsM wr (fun b => w.heap.size + 2 ≤ b ∧ b < wr.heap.size) A1 t.names := h.names.move hM fun _ _ => rfl
  rcases h.row with h0 | ⟨hA, hg, cur, G, hb, hc, hz, ht, -⟩
  · exact .mk t A1 c1 A2 c2 (fun _ => #[]) hf hn (.inl h0) h.cap1 h.cap2 (fun i hi => by omega)
  · refine .mk t A1 c1 A2 c2 G hf hn (.inr ⟨g, 0, hA, ⟨by omega, hb.lt⟩, fun i hi j hj => ?_⟩) h.cap1 h.cap2 (fun i hi => (ht i hi hi).mono hM)
    rw [hb.cell, Nat.zero_add]
    exact hc i hi j (by rw [hz i hi] at hj; exact hj)
def arr7 (c : Array Value) (o : Nat) (v0 v1 v2 v3 v4 v5 v6 : Value) : Array Value := ((((((c.setIfInBounds o v0).setIfInBounds (o + 1) v1).setIfInBounds (o + 2) v2).setIfInBounds (o + 3) v3).setIfInBounds (o + 4) v4).setIfInBounds (o + 5) v5).setIfInBounds (o + 6) v6
def put7 (w : World) (g o : Nat) (v0 v1 v2 v3 v4 v5 v6 : Value) : World := ((((((w.setCell ⟨g, o, none⟩ v0).setCell ⟨g, o + 1, none⟩ v1).setCell ⟨g, o + 2, none⟩ v2).setCell ⟨g, o + 3, none⟩ v3).setCell ⟨g, o + 4, none⟩ v4).setCell ⟨g, o + 5, none⟩ v5).setCell ⟨g, o + 6, none⟩ v6
theorem arr7_out {c : Array Value} {o i : Nat} {v0 v1 v2 v3 v4 v5 v6 : Value} (h : i < o ∨ o + 7 ≤ i) : (arr7 c o v0 v1 v2 v3 v4 v5 v6)[i]? = c[i]? := by
  unfold arr7
  simp only [Array.getElem?_setIfInBounds]
  repeat rw [if_neg (by omega)]
theorem arr7_in {c : Array Value} {o j : Nat} {v0 v1 v2 v3 v4 v5 v6 : Value} (h : o + 7 ≤ c.size) (hj : j < 7) : (arr7 c o v0 v1 v2 v3 v4 v5 v6)[o + j]? = (#[v0, v1, v2, v3, v4, v5, v6] : Array Value)[j]? := by
  unfold arr7
  simp only [Array.getElem?_setIfInBounds, Array.size_setIfInBounds]
  match j, hj with
  | 0, _ => simp; omega
  | 1, _ => simp; omega
  | 2, _ => simp; omega
  | 3, _ => simp; omega
  | 4, _ => simp; omega
  | 5, _ => simp; omega
  | 6, _ => simp; omega
theorem put7_blk {w : World} {g o : Nat} {C : Array Value} {T : TypeId} (v0 v1 v2 v3 v4 v5 v6 : Value) (h : Blk w g C T) : Blk (put7 w g o v0 v1 v2 v3 v4 v5 v6) g (arr7 C o v0 v1 v2 v3 v4 v5 v6) T :=
  ((((((h.set _ _).set _ _).set _ _).set _ _).set _ _).set _ _).set _ _
theorem put7_far {w : World} {g o b : Nat} {C : Array Value} {T : TypeId} (v0 v1 v2 v3 v4 v5 v6 : Value) (h : Blk w b C T) (hb : b ≠ g) : Blk (put7 w g o v0 v1 v2 v3 v4 v5 v6) b C T :=
  ((((((h.far _ _ hb).far _ _ hb).far _ _ hb).far _ _ hb).far _ _ hb).far _ _ hb).far _ _ hb
theorem put7_cell {w : World} {g o : Nat} (v0 v1 v2 v3 v4 v5 v6 : Value) {p : Addr} (hp : p.block ≠ g) : (put7 w g o v0 v1 v2 v3 v4 v5 v6).cell? p = w.cell? p := by
  unfold put7
  repeat rw [World.cell?_setCell_other _ _ _ _ (fun e => hp (by rw [← e]))]
theorem put7_size (w : World) (g o : Nat) (v0 v1 v2 v3 v4 v5 v6 : Value) : (put7 w g o v0 v1 v2 v3 v4 v5 v6).heap.size = w.heap.size := by
  simp [put7, World.setCell]
theorem put7_below {B : Nat} {a w : World} {g o : Nat} (v0 v1 v2 v3 v4 v5 v6 : Value) (h : Below B a w) (hg : B ≤ g) : Below B a (put7 w g o v0 v1 v2 v3 v4 v5 v6) :=
  ((((((h.setCell (p := ⟨g, _, none⟩) hg _).setCell (p := ⟨g, _, none⟩) hg _).setCell (p := ⟨g, _, none⟩) hg _).setCell (p := ⟨g, _, none⟩) hg _).setCell (p := ⟨g, _, none⟩) hg _).setCell (p := ⟨g, _, none⟩) hg _).setCell (p := ⟨g, _, none⟩) hg _
theorem CopyRel.next {w wr wd w2 : World} {t : Ty} {f : Nat → Array Value} {A1 : Option Addr} {c1 c2 g k : Nat} {na2 sa2 : Option Addr} {nc2 sc2 : Nat} (h : CopyRel w wr t f A1 c1 (some ⟨g, 0, none⟩) c2 g k) (hlt : k < t.subs.length)
    (hd : wd.heap = wr.heap) (hda : Below w.heap.size w wd) (hb2 : Below wd.heap.size wd w2) (ht2 : TyM w2 (Fresh wd w2) t.subs[k] (tyCells t.subs[k] na2 nc2 sa2 sc2)) :
    CopyRel w (((((((w2.setCell ⟨g, k * 7, none⟩ (.int .i64 t.subs[k].kind)).setCell ⟨g, k * 7 + 1, none⟩ (.string t.subs[k].pkg)).setCell ⟨g, k * 7 + 2, none⟩ (.int .i64 t.subs[k].major)).setCell ⟨g, k * 7 + 3, none⟩ (.string t.subs[k].mod)).setCell ⟨g, k * 7 + 4, none⟩ (.string t.subs[k].name)).setCell ⟨g, k * 7 + 5, none⟩ (.slice na2 t.subs[k].names.length nc2)).setCell ⟨g, k * 7 + 6, none⟩ (.slice sa2 t.subs[k].subs.length sc2)) t f A1 c1 (some ⟨g, 0, none⟩) c2 g (k + 1) := by
  have hds : wd.heap.size = wr.heap.size := by rw [hd]
  have hdc : ∀ p, wd.cell? p = wr.cell? p := fun p => by unfold World.cell?; rw [hd]
  have hdb : ∀ {b C T}, Blk wr b C T → Blk wd b C T := fun {b C T} hB => by unfold Blk; rw [hd]; exact hB
  have s2 := hb2.size
  have s1 := h.size
  rcases h.row with h0 | ⟨-, hg, cur, G, hb, hc, hz, hT, hG⟩
  · omega
  have hgl := hb.lt
  show CopyRel w (put7 w2 g (k * 7) (.int .i64 t.subs[k].kind) (.string t.subs[k].pkg) (.int .i64 t.subs[k].major) (.string t.subs[k].mod) (.string t.subs[k].name) (.slice na2 t.subs[k].names.length nc2) (.slice sa2 t.subs[k].subs.length sc2)) t f A1 c1 (some ⟨g, 0, none⟩) c2 g (k + 1)
  have hsz := put7_size w2 g (k * 7) (.int .i64 t.subs[k].kind) (.string t.subs[k].pkg) (.int .i64 t.subs[k].major) (.string t.subs[k].mod) (.string t.subs[k].name) (.slice na2 t.subs[k].names.length nc2) (.slice sa2 t.subs[k].subs.length sc2)
  have hM : ∀ b, (w.heap.size + 2 ≤ b ∧ b < wr.heap.size ∧ b ≠ g) → (w.heap.size + 2 ≤ b ∧ b < (put7 w2 g (k * 7) (.int .i64 t.subs[k].kind) (.string t.subs[k].pkg) (.int .i64 t.subs[k].major) (.string t.subs[k].mod) (.string t.subs[k].name) (.slice na2 t.subs[k].names.length nc2) (.slice sa2 t.subs[k].subs.length sc2)).heap.size ∧ b ≠ g) := by
    intro b hb
    rw [hsz]
    exact ⟨hb.1, by omega, hb.2.2⟩
  have hK : ∀ p : Addr, (w.heap.size + 2 ≤ p.block ∧ p.block < wr.heap.size ∧ p.block ≠ g) → (put7 w2 g (k * 7) (.int .i64 t.subs[k].kind) (.string t.subs[k].pkg) (.int .i64 t.subs[k].major) (.string t.subs[k].mod) (.string t.subs[k].name) (.slice na2 t.subs[k].names.length nc2) (.slice sa2 t.subs[k].subs.length sc2)).cell? p = wr.cell? p := by
    intro p hp
    rw [put7_cell _ _ _ _ _ _ _ hp.2.2, hb2.cell (by omega), hdc]
  have hG7 := hz k hlt
  have hcs : k * 7 + 7 ≤ cur.size := by
    have := hc k hlt 6 (by omega)
    rw [Array.getElem?_eq_getElem (by omega : 6 < (G k).size)] at this
    have := (Array.getElem?_eq_some_iff.1 this).1
    omega
  refine ⟨put7_below _ _ _ _ _ _ _ (hda.trans (hb2.mono (by omega))) (by omega), by rw [hsz]; omega, put7_far _ _ _ _ _ _ _ ((hdb h.box).under hb2 (by omega)) (by omega), put7_far _ _ _ _ _ _ _ ((hdb h.zero).under hb2 (by omega)) (by omega), h.cap1, h.cap2, h.names.move hM hK,
    .inr ⟨rfl, hg, arr7 cur (k * 7) (.int .i64 t.subs[k].kind) (.string t.subs[k].pkg) (.int .i64 t.subs[k].major) (.string t.subs[k].mod) (.string t.subs[k].name) (.slice na2 t.subs[k].names.length nc2) (.slice sa2 t.subs[k].subs.length sc2), fun i => if i = k then tyCells t.subs[k] na2 nc2 sa2 sc2 else G i, put7_blk _ _ _ _ _ _ _ ((hdb hb).under hb2 (by omega)), ?_, ?_, ?_, ?_⟩⟩
  · intro i hi j hj
    dsimp only
    by_cases he : i = k
    · subst he
      rw [if_pos rfl, arr7_in hcs hj]
      rfl
    · rw [if_neg he, arr7_out (by omega)]
      exact hc i hi j hj
  · intro i hi
    dsimp only
    by_cases he : i = k
    · subst he
      rw [if_pos rfl]
      rfl
    · rw [if_neg he]
      exact hz i hi
  · intro i hi hik
    dsimp only
    by_cases he : i = k
    · subst he
      rw [if_pos rfl]
      refine ht2.move (fun b hb => ?_) (fun p hp => ?_)
      · rw [hsz]
        have := hb.1
        have := hb.2
        exact ⟨by omega, by omega, by omega⟩
      · have := hp.1
        have := hp.2
        exact put7_cell _ _ _ _ _ _ _ (by omega)
    · rw [if_neg he]
      exact (hT i hi (by omega)).move hM hK
  · intro i hi hil
    dsimp only
    rw [if_neg (by omega)]
    exact hG i (by omega) hil
theorem CopyRel.last {w wr : World} {t : Ty} {f : Nat → Array Value} {A1 : Option Addr} {c1 : Nat} {A2 : Option Addr} {c2 g : Nat} (h : CopyRel w wr t f A1 c1 A2 c2 g t.subs.length) (hf : Fits t) (o : Nat) (v0 v1 v2 v3 v4 v5 v6 : Value) :
    TyM (put7 wr (w.heap.size + 1) o v0 v1 v2 v3 v4 v5 v6) (Fresh w (put7 wr (w.heap.size + 1) o v0 v1 v2 v3 v4 v5 v6)) t (tyCells t A1 c1 A2 c2) ∧ Below w.heap.size w (put7 wr (w.heap.size + 1) o v0 v1 v2 v3 v4 v5 v6) :=
  ⟨(h.done hf).move (fun b hb => ⟨by omega, by rw [put7_size]; exact hb.2⟩) (fun p hp => put7_cell _ _ _ _ _ _ _ (by omega)), put7_below _ _ _ _ _ _ _ h.below (by omega)⟩
end Go.Proofs.YtjeldfipipkfiaaGreat
