/- The contract of witness.copied: the same tree in memory of the call's own. -/
import Derived.Test.YtjeldfipipkfiaaGreatDoorGMem
import Derived.Test.YtjeldfipipkfiaaGreatDoorGSub
import Derived.Deep.RegionHeld3
import Derived.Deep.RegionLaw
import Derived.StillTailTactics
namespace Go.Proofs.YtjeldfipipkfiaaGreatDoor
open Go.RowKit
set_option linter.unusedSimpArgs false
set_option linter.unusedVariables false
def Fresh (w w' : World) : Nat → Prop := fun b => w.heap.size ≤ b ∧ b < w'.heap.size
theorem cloneS_c (A : Option Addr) (c B : Nat) (l : List ByteArray) (w : World) (h : StrsAt w B A l) (hl : l.length ≤ 1000000) :
    Calls Tryz.prog 132 #[.slice A l.length c] w fun e w' => (∃ A' c', e = .returned (.slice A' l.length c') ∧ l.length ≤ c' ∧ StrsM w' (Fresh w w') A' l) ∧ Below w.heap.size w w' := by
  cases A with
  | none =>
    rcases h with rfl | ⟨b, o, hA, -⟩
    · refine (cloneS_nil 0 c w).mono ?_
      rintro e w' ⟨rfl, rfl⟩
      exact ⟨⟨none, 0, rfl, Nat.le_refl _, .inl rfl⟩, Below.refl _ _⟩
    · cases hA
  | some a =>
    refine (cloneS_some a l.length c (l.map Value.string) w (by simp) hl ?_ ?_).mono ?_
    · intro j u hu
      rcases h with rfl | ⟨b, o, hA, -, hc⟩
      · simp at hu
      · cases hA
        have hj : j < l.length := by have := (List.getElem?_eq_some_iff.1 hu).1; simpa using this
        rw [addN, hc j hj, ← hu]
        simp [hj]
    · intro u hu
      obtain ⟨x, -, rfl⟩ := List.mem_map.1 hu
      rfl
    · rintro e w' ⟨g, c', rfl, hown, hb⟩
      refine ⟨⟨some ⟨g, 0, none⟩, c', rfl, ?_, ?_⟩, hb⟩
      · obtain ⟨-, ⟨h0, -⟩ | ⟨g', cap', cur, hv, -, -, hn, -⟩⟩ := hown
        · simp at h0
        · simp at hv; omega
      · by_cases h0 : l = []
        · exact .inl h0
        · refine .inr ⟨g, 0, rfl, ?_, fun i hi => ?_⟩
          · obtain ⟨-, ⟨h0, -⟩ | ⟨g', cap', cur, hv, hg, hh, hn, -⟩⟩ := hown
            · simp at h0
            · simp at hv
              obtain ⟨rfl, -⟩ := hv
              exact ⟨hg, (Array.getElem?_eq_some_iff.1 hh).1⟩
          · rw [owns_cell hown (by omega), Nat.zero_add]
            simp [hi]
theorem cloneT_c (A : Option Addr) (c B n : Nat) (f : Nat → Array Value) (w : World) (h : RowsAt w B A n f) (hf : ∀ i, i < n → ∃ s, TyC w B s (f i)) (hl : n ≤ 1000000) :
    Calls Tryz.prog 148 #[.slice A n c] w fun e w' => (∃ A' c', e = .returned (.slice A' n c') ∧ n ≤ c' ∧ (n = 0 ∨ ∃ g, A' = some ⟨g, 0, none⟩ ∧ w'.ownsRow w.heap.size 29 7 (.slice A' n c') n (((List.range n).map f).flatMap (·.toList)))) ∧ Below w.heap.size w w' := by
  have hz : ∀ c ∈ (List.range n).map f, c.size = 7 := by
    intro c hc
    simp only [List.mem_map, List.mem_range] at hc
    obtain ⟨i, hi, rfl⟩ := hc
    obtain ⟨s, hs⟩ := hf i hi
    exact hs.toM.size
  cases A with
  | none =>
    have : n = 0 := by
      rcases h with h | ⟨b, o, hA, -⟩
      · exact h
      · cases hA
    subst this
    refine (cloneT_nil 0 c w).mono ?_
    rintro e w' ⟨rfl, rfl⟩
    exact ⟨⟨none, 0, rfl, Nat.le_refl _, .inl rfl⟩, Below.refl _ _⟩
  | some a =>
    refine (cloneT_some a n c (((List.range n).map f).flatMap (·.toList)) w (by rw [flat_len _ hz]; simp) hl ?_ ?_).mono ?_
    · intro j u hu
      have hj : j < n * 7 := by
        have := (List.getElem?_eq_some_iff.1 hu).1
        rw [flat_len _ hz] at this
        simpa using this
      rcases h with rfl | ⟨b, o, hA, -, hc⟩
      · omega
      · cases hA
        have hd : j = j / 7 * 7 + j % 7 := by omega
        have hi : j / 7 < n := by omega
        have hs : (f (j / 7)).size = 7 := hz _ (List.mem_map.2 ⟨j / 7, List.mem_range.2 hi, rfl⟩)
        have e := flat_at ((List.range n).map f) hz (j / 7) (by simpa using hi) (j % 7) (Nat.mod_lt _ (by decide))
        rw [← hd, hu] at e
        rw [addN, show o + j = o + j / 7 * 7 + j % 7 by omega, hc (j / 7) hi (j % 7) (by rw [hs]; exact Nat.mod_lt _ (by decide)), e]
        simp
    · intro u hu
      simp only [List.mem_flatMap, List.mem_map, List.mem_range] at hu
      obtain ⟨cc, ⟨i, hi, rfl⟩, hu⟩ := hu
      obtain ⟨s, hs⟩ := hf i hi
      obtain ⟨_, _, _, _, _, hk, -⟩ := hs.inv
      rw [hk] at hu
      simp [tyCells] at hu
      rcases hu with rfl | rfl | rfl | rfl | rfl | rfl | rfl <;> rfl
    · rintro e w' ⟨g, c', rfl, hown, hb⟩
      refine ⟨⟨some ⟨g, 0, none⟩, c', rfl, ?_, .inr ⟨g, rfl, hown⟩⟩, hb⟩
      obtain ⟨-, ⟨h0, -⟩ | ⟨g', cap', cur, hv, -, -, hn, -⟩⟩ := hown
      · simp at h0
      · simp at hv; omega
theorem StrsAt.later {w W Wn : World} {B : Nat} {A : Option Addr} {l : List ByteArray} (h : StrsAt w B A l) (ha : Below w.heap.size w W) (hB : B ≤ w.heap.size) (hb : Below W.heap.size W Wn) : StrsAt Wn B A l :=
  h.under ((ha.trans (hb.mono ha.size)).mono hB)
theorem TyC.later {w W Wn : World} {B : Nat} {t : Ty} {cs : Array Value} (h : TyC w B t cs) (ha : Below w.heap.size w W) (hB : B ≤ w.heap.size) (hb : Below W.heap.size W Wn) : TyC Wn B t cs :=
  h.under ((ha.trans (hb.mono ha.size)).mono hB)
theorem RowsAt.later {w W Wn : World} {B n : Nat} {A : Option Addr} {f : Nat → Array Value} (h : RowsAt w B A n f) (ha : Below w.heap.size w W) (hB : B ≤ w.heap.size) (hb : Below W.heap.size W Wn) : RowsAt Wn B A n f :=
  h.keep fun p hp => ((ha.trans (hb.mono ha.size)).mono hB).cell hp
theorem box2_keep {W Wn W' : World} {b i j : Nat} {u v : Value} (hlt : b < W.heap.size) (h1 : Wn.cell? ⟨b, i, none⟩ = some u) (h2 : Wn.cell? ⟨b, j, none⟩ = some v) (h3 : Wn.frozen? ⟨b, i, none⟩ = false) (h4 : Wn.frozen? ⟨b, j, none⟩ = false)
    (h5 : Below W.heap.size W Wn) (hb : Below Wn.heap.size Wn W') :
    W'.cell? ⟨b, i, none⟩ = some u ∧ W'.cell? ⟨b, j, none⟩ = some v ∧ W'.frozen? ⟨b, i, none⟩ = false ∧ W'.frozen? ⟨b, j, none⟩ = false ∧ Below W.heap.size W W' := by
  have hl : b < Wn.heap.size := Nat.lt_of_lt_of_le hlt h5.size
  exact ⟨(hb.cell hl).trans h1, (hb.cell hl).trans h2, (hb.frozen hl).trans h3, (hb.frozen hl).trans h4, h5.trans (hb.mono h5.size)⟩
structure CopyRel (w wr : World) (t : Ty) (f : Nat → Array Value) (A1 : Option Addr) (c1 : Nat) (A2 : Option Addr) (c2 g k : Nat) : Prop where
  below : Below w.heap.size w wr
  size : w.heap.size + 2 ≤ wr.heap.size
  box : Blk wr w.heap.size #[.int .i64 t.kind, .string t.pkg, .int .i64 t.major, .string t.mod, .string t.name, .slice A1 t.names.length c1, .slice A2 t.subs.length c2] 29
  zero : Blk wr (w.heap.size + 1) #[.int .i64 0, .string { data := #[] }, .int .i64 0, .string { data := #[] }, .string { data := #[] }, .slice none 0 0, .slice none 0 0] 29
  cap1 : t.names.length ≤ c1
  cap2 : t.subs.length ≤ c2
  names : StrsM wr (fun b => w.heap.size + 2 ≤ b ∧ b < wr.heap.size ∧ b ≠ g) A1 t.names
  row : t.subs.length = 0 ∨ (A2 = some ⟨g, 0, none⟩ ∧ w.heap.size + 2 ≤ g ∧ ∃ (cur : Array Value) (G : Nat → Array Value), Blk wr g cur 29 ∧ (∀ i, i < t.subs.length → ∀ j, j < 7 → cur[i * 7 + j]? = (G i)[j]?) ∧ (∀ i, i < t.subs.length → (G i).size = 7) ∧
    (∀ i (h : i < t.subs.length), i < k → TyM wr (fun b => w.heap.size + 2 ≤ b ∧ b < wr.heap.size ∧ b ≠ g) t.subs[i] (G i)) ∧ (∀ i, k ≤ i → i < t.subs.length → G i = f i))
theorem CopyRel.done {w wr : World} {t : Ty} {f : Nat → Array Value} {A1 : Option Addr} {c1 : Nat} {A2 : Option Addr} {c2 g : Nat} (h : CopyRel w wr t f A1 c1 A2 c2 g t.subs.length) (hf : Fits t) : TyM wr (fun b => w.heap.size + 2 ≤ b ∧ b < wr.heap.size) t (tyCells t A1 c1 A2 c2) := by
  have hM : ∀ b, (w.heap.size + 2 ≤ b ∧ b < wr.heap.size ∧ b ≠ g) → (w.heap.size + 2 ≤ b ∧ b < wr.heap.size) := fun b hb => ⟨hb.1, hb.2.1⟩
  have hn : StrsM wr (fun b => w.heap.size + 2 ≤ b ∧ b < wr.heap.size) A1 t.names := h.names.move hM fun _ _ => rfl
  rcases h.row with h0 | ⟨hA, hg, cur, G, hb, hc, hz, ht, -⟩
  · exact .mk t A1 c1 A2 c2 (fun _ => #[]) hf hn (.inl h0) h.cap1 h.cap2 (fun i hi => by omega)
  · refine .mk t A1 c1 A2 c2 G hf hn (.inr ⟨g, 0, hA, ⟨by omega, hb.lt⟩, fun i hi j hj => ?_⟩) h.cap1 h.cap2 (fun i hi => (ht i hi hi).mono hM)
    rw [hb.cell, Nat.zero_add]
    exact hc i hi j (by rw [hz i hi] at hj; exact hj)
theorem CopyRel.start {w W Wd wn wt : World} {t : Ty} {f : Nat → Array Value} {na sa A1 A2 : Option Addr} {nc sc c1 c2 : Nat} (hacc : Below w.heap.size w W) (hsz : W.heap.size = w.heap.size + 2) (hd : Wd.heap.size = W.heap.size)
    (hx : Blk W w.heap.size #[.int .i64 t.kind, .string t.pkg, .int .i64 t.major, .string t.mod, .string t.name, .slice na t.names.length nc, .slice sa t.subs.length sc] 29)
    (hz : Blk W (w.heap.size + 1) #[.int .i64 0, .string { data := #[] }, .int .i64 0, .string { data := #[] }, .string { data := #[] }, .slice none 0 0, .slice none 0 0] 29)
    (hc1 : t.names.length ≤ c1) (hs1 : StrsM wn (Fresh Wd wn) A1 t.names) (hb1 : Below Wd.heap.size Wd wn) (hbw : Below W.heap.size W wn) (hc2 : t.subs.length ≤ c2)
    (hs2 : t.subs.length = 0 ∨ ∃ g, A2 = some ⟨g, 0, none⟩ ∧ wt.ownsRow wn.heap.size 29 7 (.slice A2 t.subs.length c2) t.subs.length (((List.range t.subs.length).map f).flatMap (·.toList)))
    (hb2 : Below wn.heap.size wn wt) (hf7 : ∀ i, i < t.subs.length → (f i).size = 7) :
    ∃ g, CopyRel w ((wt.setCell ⟨w.heap.size, 5, none⟩ (.slice A1 t.names.length c1)).setCell ⟨w.heap.size, 6, none⟩ (.slice A2 t.subs.length c2)) t f A1 c1 A2 c2 g 0 := by
  have s1 := hbw.size
  have s2 := hb2.size
  have hWt : Below W.heap.size W wt := hbw.trans (hb2.mono s1)
  have hB : Below w.heap.size w ((wt.setCell ⟨w.heap.size, 5, none⟩ (.slice A1 t.names.length c1)).setCell ⟨w.heap.size, 6, none⟩ (.slice A2 t.subs.length c2)) :=
    ((hacc.trans (hWt.mono (by omega))).setCell (Nat.le_refl _) _).setCell (Nat.le_refl _) _
  have hbox := ((hx.under hWt (by omega)).set 5 (.slice A1 t.names.length c1)).set 6 (.slice A2 t.subs.length c2)
  have hzero := ((hz.under hWt (by omega)).far ⟨w.heap.size, 5, none⟩ (.slice A1 t.names.length c1) (by simp)).far ⟨w.heap.size, 6, none⟩ (.slice A2 t.subs.length c2) (by simp)
  have hsize : ((wt.setCell ⟨w.heap.size, 5, none⟩ (.slice A1 t.names.length c1)).setCell ⟨w.heap.size, 6, none⟩ (.slice A2 t.subs.length c2)).heap.size = wt.heap.size := by simp [World.setCell]
  have hcell : ∀ p : Addr, p.block ≠ w.heap.size → ((wt.setCell ⟨w.heap.size, 5, none⟩ (.slice A1 t.names.length c1)).setCell ⟨w.heap.size, 6, none⟩ (.slice A2 t.subs.length c2)).cell? p = wt.cell? p := by
    intro p hp
    rw [World.cell?_setCell_other _ _ _ _ (fun e => hp (by rw [← e])), World.cell?_setCell_other _ _ _ _ (fun e => hp (by rw [← e]))]
  have names : ∀ g, (∀ b, b < wn.heap.size → W.heap.size ≤ b → b ≠ g) → StrsM ((wt.setCell ⟨w.heap.size, 5, none⟩ (.slice A1 t.names.length c1)).setCell ⟨w.heap.size, 6, none⟩ (.slice A2 t.subs.length c2)) (fun b => w.heap.size + 2 ≤ b ∧ b < ((wt.setCell ⟨w.heap.size, 5, none⟩ (.slice A1 t.names.length c1)).setCell ⟨w.heap.size, 6, none⟩ (.slice A2 t.subs.length c2)).heap.size ∧ b ≠ g) A1 t.names := by
    intro g hg
    refine hs1.move (fun b hb => ?_) (fun p hp => ?_)
    · have := hb.1
      have := hb.2
      rw [hsize]
      exact ⟨by omega, by omega, hg b (by omega) (by omega)⟩
    · have := hp.1
      rw [hcell p (by omega), hb2.cell hp.2]
  rcases hs2 with h0 | ⟨g, hA, hown⟩
  · exact ⟨w.heap.size, hB, by rw [hsize]; omega, hbox, hzero, hc1, hc2, names _ (fun b _ h e => by omega), .inl h0⟩
  · subst hA
    have hl := flat_len ((List.range t.subs.length).map f) (by intro c hc; simp only [List.mem_map, List.mem_range] at hc; obtain ⟨i, hi, rfl⟩ := hc; exact hf7 i hi)
    obtain ⟨-, ⟨h0, -⟩ | ⟨g', cap, cur, hv, hg, hh, hn, -, hcz, ht⟩⟩ := hown
    · simp at h0
    · simp at hv
      obtain ⟨rfl, rfl⟩ := hv
      refine ⟨g, hB, by rw [hsize]; omega, hbox, hzero, hc1, hc2, names _ (fun b h1 _ e => by omega), .inr ⟨rfl, by omega, cur, f, ?_, ?_, hf7, fun i _ h => by omega, fun i _ _ => rfl⟩⟩
      · exact (Blk.far (show Blk wt g cur _ from hh) _ _ (by simp; omega)).far _ _ (by simp; omega)
      · intro i hi j hj
        have e := flat_at ((List.range t.subs.length).map f) (by intro c hc; simp only [List.mem_map, List.mem_range] at hc; obtain ⟨i, hi, rfl⟩ := hc; exact hf7 i hi) i (by simpa using hi) j hj
        rw [← ht, List.getElem?_take_of_lt (by omega)] at e
        simpa using e
def arr7 (c : Array Value) (o : Nat) (v0 v1 v2 v3 v4 v5 v6 : Value) : Array Value := ((((((c.setIfInBounds o v0).setIfInBounds (o + 1) v1).setIfInBounds (o + 2) v2).setIfInBounds (o + 3) v3).setIfInBounds (o + 4) v4).setIfInBounds (o + 5) v5).setIfInBounds (o + 6) v6
def put7 (w : World) (g o : Nat) (v0 v1 v2 v3 v4 v5 v6 : Value) : World := ((((((w.setCell ⟨g, o, none⟩ v0).setCell ⟨g, o + 1, none⟩ v1).setCell ⟨g, o + 2, none⟩ v2).setCell ⟨g, o + 3, none⟩ v3).setCell ⟨g, o + 4, none⟩ v4).setCell ⟨g, o + 5, none⟩ v5).setCell ⟨g, o + 6, none⟩ v6
theorem arr7_out {c : Array Value} {o i : Nat} {v0 v1 v2 v3 v4 v5 v6 : Value} (h : i < o ∨ o + 7 ≤ i) : (arr7 c o v0 v1 v2 v3 v4 v5 v6)[i]? = c[i]? := by
  unfold arr7
  simp only [Array.getElem?_setIfInBounds]
  repeat rw [if_neg (by omega)]
theorem arr7_in {c : Array Value} {o j : Nat} {v0 v1 v2 v3 v4 v5 v6 : Value} (h : o + 7 ≤ c.size) (hj : j < 7) : (arr7 c o v0 v1 v2 v3 v4 v5 v6)[o + j]? = (#[v0, v1, v2, v3, v4, v5, v6] : Array Value)[j]? := by
  unfold arr7
  simp only [Array.getElem?_setIfInBounds, Array.size_setIfInBounds]
  match j, hj with
  | 0, _ => simp; omega
  | 1, _ => simp; omega
  | 2, _ => simp; omega
  | 3, _ => simp; omega
  | 4, _ => simp; omega
  | 5, _ => simp; omega
  | 6, _ => simp; omega
theorem put7_blk {w : World} {g o : Nat} {C : Array Value} {T : TypeId} (v0 v1 v2 v3 v4 v5 v6 : Value) (h : Blk w g C T) : Blk (put7 w g o v0 v1 v2 v3 v4 v5 v6) g (arr7 C o v0 v1 v2 v3 v4 v5 v6) T :=
  ((((((h.set _ _).set _ _).set _ _).set _ _).set _ _).set _ _).set _ _
theorem put7_far {w : World} {g o b : Nat} {C : Array Value} {T : TypeId} (v0 v1 v2 v3 v4 v5 v6 : Value) (h : Blk w b C T) (hb : b ≠ g) : Blk (put7 w g o v0 v1 v2 v3 v4 v5 v6) b C T :=
  ((((((h.far _ _ hb).far _ _ hb).far _ _ hb).far _ _ hb).far _ _ hb).far _ _ hb).far _ _ hb
theorem put7_cell {w : World} {g o : Nat} (v0 v1 v2 v3 v4 v5 v6 : Value) {p : Addr} (hp : p.block ≠ g) : (put7 w g o v0 v1 v2 v3 v4 v5 v6).cell? p = w.cell? p := by
  unfold put7
  repeat rw [World.cell?_setCell_other _ _ _ _ (fun e => hp (by rw [← e]))]
theorem put7_size (w : World) (g o : Nat) (v0 v1 v2 v3 v4 v5 v6 : Value) : (put7 w g o v0 v1 v2 v3 v4 v5 v6).heap.size = w.heap.size := by
  simp [put7, World.setCell]
theorem put7_below {B : Nat} {a w : World} {g o : Nat} (v0 v1 v2 v3 v4 v5 v6 : Value) (h : Below B a w) (hg : B ≤ g) : Below B a (put7 w g o v0 v1 v2 v3 v4 v5 v6) :=
  ((((((h.setCell (p := ⟨g, _, none⟩) hg _).setCell (p := ⟨g, _, none⟩) hg _).setCell (p := ⟨g, _, none⟩) hg _).setCell (p := ⟨g, _, none⟩) hg _).setCell (p := ⟨g, _, none⟩) hg _).setCell (p := ⟨g, _, none⟩) hg _).setCell (p := ⟨g, _, none⟩) hg _
theorem CopyRel.next {w wr wd w2 : World} {t : Ty} {f : Nat → Array Value} {A1 : Option Addr} {c1 c2 g k : Nat} {na2 sa2 : Option Addr} {nc2 sc2 : Nat} (h : CopyRel w wr t f A1 c1 (some ⟨g, 0, none⟩) c2 g k) (hlt : k < t.subs.length)
    (hd : wd.heap = wr.heap) (hda : Below w.heap.size w wd) (hb2 : Below wd.heap.size wd w2) (ht2 : TyM w2 (Fresh wd w2) t.subs[k] (tyCells t.subs[k] na2 nc2 sa2 sc2)) :
    CopyRel w (((((((w2.setCell ⟨g, k * 7, none⟩ (.int .i64 t.subs[k].kind)).setCell ⟨g, k * 7 + 1, none⟩ (.string t.subs[k].pkg)).setCell ⟨g, k * 7 + 2, none⟩ (.int .i64 t.subs[k].major)).setCell ⟨g, k * 7 + 3, none⟩ (.string t.subs[k].mod)).setCell ⟨g, k * 7 + 4, none⟩ (.string t.subs[k].name)).setCell ⟨g, k * 7 + 5, none⟩ (.slice na2 t.subs[k].names.length nc2)).setCell ⟨g, k * 7 + 6, none⟩ (.slice sa2 t.subs[k].subs.length sc2)) t f A1 c1 (some ⟨g, 0, none⟩) c2 g (k + 1) := by
  have hds : wd.heap.size = wr.heap.size := by rw [hd]
  have hdc : ∀ p, wd.cell? p = wr.cell? p := fun p => by unfold World.cell?; rw [hd]
  have hdb : ∀ {b C T}, Blk wr b C T → Blk wd b C T := fun {b C T} hB => by unfold Blk; rw [hd]; exact hB
  have s2 := hb2.size
  have s1 := h.size
  rcases h.row with h0 | ⟨-, hg, cur, G, hb, hc, hz, hT, hG⟩
  · omega
  have hgl := hb.lt
  show CopyRel w (put7 w2 g (k * 7) (.int .i64 t.subs[k].kind) (.string t.subs[k].pkg) (.int .i64 t.subs[k].major) (.string t.subs[k].mod) (.string t.subs[k].name) (.slice na2 t.subs[k].names.length nc2) (.slice sa2 t.subs[k].subs.length sc2)) t f A1 c1 (some ⟨g, 0, none⟩) c2 g (k + 1)
  have hsz := put7_size w2 g (k * 7) (.int .i64 t.subs[k].kind) (.string t.subs[k].pkg) (.int .i64 t.subs[k].major) (.string t.subs[k].mod) (.string t.subs[k].name) (.slice na2 t.subs[k].names.length nc2) (.slice sa2 t.subs[k].subs.length sc2)
  have hM : ∀ b, (w.heap.size + 2 ≤ b ∧ b < wr.heap.size ∧ b ≠ g) → (w.heap.size + 2 ≤ b ∧ b < (put7 w2 g (k * 7) (.int .i64 t.subs[k].kind) (.string t.subs[k].pkg) (.int .i64 t.subs[k].major) (.string t.subs[k].mod) (.string t.subs[k].name) (.slice na2 t.subs[k].names.length nc2) (.slice sa2 t.subs[k].subs.length sc2)).heap.size ∧ b ≠ g) := by
    intro b hb
    rw [hsz]
    exact ⟨hb.1, by omega, hb.2.2⟩
  have hK : ∀ p : Addr, (w.heap.size + 2 ≤ p.block ∧ p.block < wr.heap.size ∧ p.block ≠ g) → (put7 w2 g (k * 7) (.int .i64 t.subs[k].kind) (.string t.subs[k].pkg) (.int .i64 t.subs[k].major) (.string t.subs[k].mod) (.string t.subs[k].name) (.slice na2 t.subs[k].names.length nc2) (.slice sa2 t.subs[k].subs.length sc2)).cell? p = wr.cell? p := by
    intro p hp
    rw [put7_cell _ _ _ _ _ _ _ hp.2.2, hb2.cell (by omega), hdc]
  have hG7 := hz k hlt
  have hcs : k * 7 + 7 ≤ cur.size := by
    have := hc k hlt 6 (by omega)
    rw [Array.getElem?_eq_getElem (by omega : 6 < (G k).size)] at this
    have := (Array.getElem?_eq_some_iff.1 this).1
    omega
  refine ⟨put7_below _ _ _ _ _ _ _ (hda.trans (hb2.mono (by omega))) (by omega), by rw [hsz]; omega, put7_far _ _ _ _ _ _ _ ((hdb h.box).under hb2 (by omega)) (by omega), put7_far _ _ _ _ _ _ _ ((hdb h.zero).under hb2 (by omega)) (by omega), h.cap1, h.cap2, h.names.move hM hK,
    .inr ⟨rfl, hg, arr7 cur (k * 7) (.int .i64 t.subs[k].kind) (.string t.subs[k].pkg) (.int .i64 t.subs[k].major) (.string t.subs[k].mod) (.string t.subs[k].name) (.slice na2 t.subs[k].names.length nc2) (.slice sa2 t.subs[k].subs.length sc2), fun i => if i = k then tyCells t.subs[k] na2 nc2 sa2 sc2 else G i, put7_blk _ _ _ _ _ _ _ ((hdb hb).under hb2 (by omega)), ?_, ?_, ?_, ?_⟩⟩
  · intro i hi j hj
    dsimp only
    by_cases he : i = k
    · subst he
      rw [if_pos rfl, arr7_in hcs hj]
      rfl
    · rw [if_neg he, arr7_out (by omega)]
      exact hc i hi j hj
  · intro i hi
    dsimp only
    by_cases he : i = k
    · subst he
      rw [if_pos rfl]
      rfl
    · rw [if_neg he]
      exact hz i hi
  · intro i hi hik
    dsimp only
    by_cases he : i = k
    · subst he
      rw [if_pos rfl]
      refine ht2.move (fun b hb => ?_) (fun p hp => ?_)
      · rw [hsz]
        have := hb.1
        have := hb.2
        exact ⟨by omega, by omega, by omega⟩
      · have := hp.1
        have := hp.2
        exact put7_cell _ _ _ _ _ _ _ (by omega)
    · rw [if_neg he]
      exact (hT i hi (by omega)).move hM hK
  · intro i hi hil
    dsimp only
    rw [if_neg (by omega)]
    exact hG i (by omega) hil
theorem CopyRel.last {w wr : World} {t : Ty} {f : Nat → Array Value} {A1 : Option Addr} {c1 : Nat} {A2 : Option Addr} {c2 g : Nat} (h : CopyRel w wr t f A1 c1 A2 c2 g t.subs.length) (hf : Fits t) (o : Nat) (v0 v1 v2 v3 v4 v5 v6 : Value) :
    TyM (put7 wr (w.heap.size + 1) o v0 v1 v2 v3 v4 v5 v6) (Fresh w (put7 wr (w.heap.size + 1) o v0 v1 v2 v3 v4 v5 v6)) t (tyCells t A1 c1 A2 c2) ∧ Below w.heap.size w (put7 wr (w.heap.size + 1) o v0 v1 v2 v3 v4 v5 v6) :=
  ⟨(h.done hf).move (fun b hb => ⟨by omega, by rw [put7_size]; exact hb.2⟩) (fun p hp => put7_cell _ _ _ _ _ _ _ (by omega)), put7_below _ _ _ _ _ _ _ h.below (by omega)⟩
theorem may_names {t : Ty} (h : mayT t = true) : t.names.length ≤ 20 := by
  have h1 := may_kind h
  have h2 := may_small h
  by_cases h5 : t.kind = 5
  · have := (may_rows h (.inl h5)).len
    omega
  by_cases h6 : t.kind = 6
  · have := (may_rows h (.inr h6)).len
    omega
  unfold kindB at h1
  rw [if_neg h5, if_neg h6] at h1
  have : (t.names.length : Int) = 0 := by
    split at h1
    · simp only [Bool.and_eq_true, beq_iff_eq] at h1; exact h1.2
    · split at h1
      · simp only [Bool.and_eq_true, beq_iff_eq] at h1; exact h1.2
      · split at h1
        · simp only [Bool.and_eq_true, beq_iff_eq] at h1; exact h1.2
        · split at h1
          · simp only [Bool.and_eq_true, beq_iff_eq] at h1; exact h1.1.1.2
          · split at h1
            · simp only [Bool.and_eq_true, beq_iff_eq] at h1; exact h1.1.1.1.1.1.2
            · simp at h1
  omega
set_option maxRecDepth 100000 in
set_option maxHeartbeats 4000000 in
theorem copied_c (t : Ty) : ∀ (cs : Array Value) (B : Nat) (w : World), TyC w B t cs → B ≤ w.heap.size → mayT t = true →
    Calls Tryz.prog 90 #[.agg cs] w fun e w' => (∃ cs', e = .returned (.agg cs') ∧ TyM w' (Fresh w w') t cs') ∧ Below w.heap.size w w' := by
  induction t using Ty.ind with
  | h t ih =>
    intro cs B w ht hB hm
    have HI := Lib.hid ih
    obtain ⟨na, nc, sa, sc, f, rfl, hft, hn, hs, -, -, hsub⟩ := ht.inv
    have hnl := may_names hm
    have hsl := may_small hm
    have HN := Lib.hid hn
    have HS := Lib.hid hs
    have HU := Lib.hid hsub
    have MA := Lib.hid hm
    have HF := Lib.hid hft
    clear ht hn hs hsub hm ih hft
    go_enter Tryz.func90, Tryz.ntmps90
    have hacc : Below w.heap.size w ((w.alloc (.cells (tyCells t na nc sa sc) 29)).alloc (.cells zeroCells 29)) := ((Below.refl _ _).alloc (Nat.le_refl _) _).alloc (by simp) _
    have hbx := (Blk.new w (tyCells t na nc sa sc) 29).alloc (.cells zeroCells 29)
    have hbz := Blk.new (w.alloc (.cells (tyCells t na nc sa sc) 29)) zeroCells 29
    have hsz : ((w.alloc (.cells (tyCells t na nc sa sc) 29)).alloc (.cells zeroCells 29)).heap.size = w.heap.size + 2 := by simp
    have e1 : (w.alloc (.cells (tyCells t na nc sa sc) 29)).heap.size = w.heap.size + 1 := by simp
    rw [e1] at hbz
    clear e1
    simp only [tyCells, zeroCells] at hacc hbx hbz hsz ⊢
    go_wp2_with fail
    generalize ((w.alloc (.cells #[.int .i64 t.kind, .string t.pkg, .int .i64 t.major, .string t.mod, .string t.name, .slice na t.names.length nc, .slice sa t.subs.length sc] 29)).alloc (.cells #[.int .i64 0, .string { data := #[] }, .int .i64 0, .string { data := #[] }, .string { data := #[] }, .slice none 0 0, .slice none 0 0] 29)) = W at hacc hbx hbz hsz ⊢
    have HX := Lib.hid hbx
    have HZ := Lib.hid hbz
    have e5 := hbx.cell 5
    have e6 := hbx.cell 6
    have f5 := hbx.free 5
    have f6 := hbx.free 6
    simp at e5 e6
    clear hbx hbz
    have hlt : w.heap.size < W.heap.size := by omega
    have d0 : Below W.heap.size W W.drew := (Below.refl _ _).drew
    have d5 : W.drew.cell? ⟨w.heap.size, 5, none⟩ = some (.slice na t.names.length nc) := e5
    have d6 : W.drew.cell? ⟨w.heap.size, 6, none⟩ = some (.slice sa t.subs.length sc) := e6
    have g5 : W.drew.frozen? ⟨w.heap.size, 5, none⟩ = false := f5
    have g6 : W.drew.frozen? ⟨w.heap.size, 6, none⟩ = false := f6
    go_region_law (first
        | (go_simp; go_at_call 132; refine (cloneS_c na nc B t.names _ (HN.out.later hacc hB d0) (by omega)).mono ?_; rintro e wn ⟨⟨A1, c1, rfl, hc1, hs1⟩, hb1⟩; obtain ⟨q5, q6, q7, q8, q9⟩ := box2_keep hlt d5 d6 g5 g6 d0 hb1)
        | (go_simp; go_at_call 148; refine (cloneT_c sa sc B t.subs.length f _ (HS.out.later hacc hB q9) (fun i hi => ⟨_, (HU.out i hi).later hacc hB q9⟩) (by omega)).mono ?_; rintro e wt ⟨⟨A2, c2, rfl, hc2, hs2⟩, hb2⟩; obtain ⟨r5, r6, r7, r8, r9⟩ := box2_keep hlt q5 q6 q7 q8 q9 hb2))
    all_goals
      have hst := CopyRel.start (Wd := W.drew) (A2 := A2) (c2 := c2) hacc hsz rfl HX.out HZ.out hc1 hs1 hb1 (d0.trans hb1) hc2 hs2 hb2 (fun i hi => (HU.out i hi).toM.size)
      clear d0 d5 d6 g5 g6 e5 e6 f5 f6 q5 q6 q7 q8 q9 r5 r6 r7 r8 r9 HX HZ hs1 hb1 hs2 hb2 hc1 hc2 hlt
      obtain ⟨g, hrel0⟩ := hst
      generalize ((wt.setCell ⟨w.heap.size, 5, none⟩ (.slice A1 t.names.length c1)).setCell ⟨w.heap.size, 6, none⟩ (.slice A2 t.subs.length c2)) = W5 at hrel0 ⊢
      clear hacc hsz
      have HR0 := Lib.hid hrel0
      have e6 := hrel0.box.cell 6
      simp at e6
      clear hrel0
      go_wp2
    all_goals
      go_loopw [15] (fun i wr => ∃ k : Nat, k ≤ t.subs.length ∧ i = .int .i64 k ∧ CopyRel w wr t f A1 c1 A2 c2 g k) (fun i _ => t.subs.length - (intOf i).toNat)
      case atStart => exact ⟨0, Nat.zero_le _, rfl, HR0.out⟩
      case round =>
        clear HR0 e6
        obtain ⟨k, hk, rfl, hr⟩ := hrel
        have HR := Lib.hid hr
        by_cases hlt : k < t.subs.length
        · have hrow := hr.row
          have hbox := hr.box.cell 6
          have hbelow := hr.below
          have hsize := hr.size
          simp at hbox
          clear hr
          rcases hrow with h0 | ⟨rfl, hg, cur, G, hb, hc, hz, hT, hG⟩
          · omega
          have hE := hG k (Nat.le_refl _) hlt
          have hS := (HU.out k hlt).under (hbelow.mono hB)
          obtain ⟨na1, nc1, sa1, sc1, f1, hfk, -⟩ := hS.inv
          have hcc := fun j hj => (hb.cell (k * 7 + j)).trans (hc k hlt j hj)
          rw [hE, hfk] at hcc
          have c0 := hcc 0 (by omega)
          have c1 := hcc 1 (by omega)
          have c2 := hcc 2 (by omega)
          have c3 := hcc 3 (by omega)
          have c4 := hcc 4 (by omega)
          have c5 := hcc 5 (by omega)
          have c6 := hcc 6 (by omega)
          simp only [tyCells, Nat.add_zero] at c0 c1 c2 c3 c4 c5 c6
          simp at c0 c1 c2 c3 c4 c5 c6
          have HBk := Lib.hid hb
          have hglt : g < wr.heap.size := hb.lt
          have hblt : w.heap.size < wr.heap.size := by omega
          rw [hfk] at hS
          have HSk := Lib.hid hS
          have hltI : (k : Int) < (t.subs.length : Int) := by omega
          have hk20 : k < 20 := by omega
          clear hb hc hz hT hG hE hcc hS hfk
          go_wp2
          go_region_law (first
            | (go_simp; go_at_call 90; refine (HI.out t.subs[k] (List.getElem_mem hlt) _ B wr.drew (HSk.out.keep fun _ _ => rfl) (by have := hbelow.size; show B ≤ wr.heap.size; omega) (may_child MA.out (List.getElem_mem hlt))).mono ?_; rintro e w2 ⟨⟨cs', rfl, ht2⟩, hb2⟩; obtain ⟨na2, nc2, sa2, sc2, f2, rfl, -⟩ := ht2.inv; simp only [tyCells]; have HT2 := Lib.hid ht2; have hb2' := hb2; clear ht2; have B2 : Blk w2 g cur 29 := HBk.out.drew.under hb2 HBk.out.lt; have p0 := (hb2.cell (p := ⟨g, k * 7, none⟩) hglt).trans c0; have z0 := B2.free (k * 7); have p1 := (hb2.cell (p := ⟨g, k * 7 + 1, none⟩) hglt).trans c1; have z1 := B2.free (k * 7 + 1); have p2 := (hb2.cell (p := ⟨g, k * 7 + 2, none⟩) hglt).trans c2; have z2 := B2.free (k * 7 + 2); have p3 := (hb2.cell (p := ⟨g, k * 7 + 3, none⟩) hglt).trans c3; have z3 := B2.free (k * 7 + 3); have p4 := (hb2.cell (p := ⟨g, k * 7 + 4, none⟩) hglt).trans c4; have z4 := B2.free (k * 7 + 4); have p5 := (hb2.cell (p := ⟨g, k * 7 + 5, none⟩) hglt).trans c5; have z5 := B2.free (k * 7 + 5); have p6 := (hb2.cell (p := ⟨g, k * 7 + 6, none⟩) hglt).trans c6; have z6 := B2.free (k * 7 + 6); have pb := (hb2.cell (p := ⟨w.heap.size, 6, none⟩) hblt).trans hbox; have HB2 := Lib.hid B2; clear B2))
          all_goals
            have hnx := CopyRel.next (wd := wr.drew) HR.out hlt rfl hbelow.drew hb2' HT2.out
            have HNX := Lib.hid hnx
            clear hnx pb p0 p1 p2 p3 p4 p5 p6 z0 z1 z2 z3 z4 z5 z6 c0 c1 c2 c3 c4 c5 c6 hbox HR hb2 hb2' HT2 HB2
            go_wp2
            first
              | exact ⟨⟨k + 1, by omega, by go_num, HNX.out⟩, by simp [intOf]; omega⟩
              | (go_roundw
                 case rel => exact ⟨k + 1, by omega, by go_num, HNX.out⟩
                 case measure => simp [intOf]; omega)
        · obtain rfl : k = t.subs.length := by omega
          have hbox := hr.box.cell
          have hz := hr.zero.cell
          have hf := hr.zero.free
          have b0 := hbox 0
          have b1 := hbox 1
          have b2 := hbox 2
          have b3 := hbox 3
          have b4 := hbox 4
          have b5 := hbox 5
          have b6 := hbox 6
          have y0 := hz 0
          have y1 := hz 1
          have y2 := hz 2
          have y3 := hz 3
          have y4 := hz 4
          have y5 := hz 5
          have y6 := hz 6
          have x0 := hf 0
          have x1 := hf 1
          have x2 := hf 2
          have x3 := hf 3
          have x4 := hf 4
          have x5 := hf 5
          have x6 := hf 6
          simp at b0 b1 b2 b3 b4 b5 b6 y0 y1 y2 y3 y4 y5 y6
          clear hr hbox hz hf
          go_wp2
          have hlast := HR.out.last HF.out 0 (.int .i64 t.kind) (.string t.pkg) (.int .i64 t.major) (.string t.mod) (.string t.name) (.slice A1 t.names.length c1) (.slice A2 t.subs.length c2)
          have hblk := put7_blk (o := 0) (.int .i64 t.kind) (.string t.pkg) (.int .i64 t.major) (.string t.mod) (.string t.name) (.slice A1 t.names.length c1) (.slice A2 t.subs.length c2) HR.out.zero
          simp only [put7, Nat.zero_add] at hlast hblk
          generalize (((((((((((((wr.setCell ⟨w.heap.size + 1, 0, none⟩ (.int .i64 t.kind))).setCell ⟨w.heap.size + 1, 1, none⟩ (.string t.pkg))).setCell ⟨w.heap.size + 1, 2, none⟩ (.int .i64 t.major))).setCell ⟨w.heap.size + 1, 3, none⟩ (.string t.mod))).setCell ⟨w.heap.size + 1, 4, none⟩ (.string t.name))).setCell ⟨w.heap.size + 1, 5, none⟩ (.slice A1 t.names.length c1))).setCell ⟨w.heap.size + 1, 6, none⟩ (.slice A2 t.subs.length c2)) = Wz at hlast hblk ⊢
          have hw := hblk.cell
          simp only [arr7] at hw
          have w0 := hw 0
          have w1 := hw 1
          have w2 := hw 2
          have w3 := hw 3
          have w4 := hw 4
          have w5 := hw 5
          have w6 := hw 6
          simp at w0 w1 w2 w3 w4 w5 w6
          refine bodyPost_ret (by simp [results, Tryz.results90, go_sem, w0, w1, w2, w3, w4, w5, w6]; try rfl) rfl ?_
          exact ⟨⟨_, rfl, hlast.1⟩, hlast.2⟩
end Go.Proofs.YtjeldfipipkfiaaGreatDoor
