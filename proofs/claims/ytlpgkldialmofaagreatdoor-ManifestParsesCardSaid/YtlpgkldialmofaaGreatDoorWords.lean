/- The contracts of manifest's words: next, key, joined; memory: the row's cell lies in a block of its own. -/
import Derived.Test.YtlpgkldialmofaaGreatDoorIdnA
import Derived.Test.YtlpgkldialmofaaGreatDoorBlkS
import Derived.Test.YtlpgkldialmofaaGreatDoorDigL
namespace Go.Proofs.YtlpgkldialmofaaGreatDoor
open Go.RowKit
set_option linter.unusedSimpArgs false
set_option linter.unusedVariables false
/-- below w's end all blocks but g are as they were -/
structure Aside (g : Nat) (w w' : World) : Prop where
  size : w.heap.size ≤ w'.heap.size
  block : ∀ b, b < w.heap.size → b ≠ g → w'.heap[b]? = w.heap[b]?
theorem Aside.refl (g : Nat) (w : World) : Aside g w w := ⟨Nat.le_refl _, fun _ _ _ => rfl⟩
theorem Aside.of {g : Nat} {w w' : World} (h : Below w.heap.size w w') : Aside g w w' := ⟨h.size, fun b hb _ => h.block b hb⟩
theorem Aside.trans {g : Nat} {w a c : World} (h : Aside g w a) (h2 : Aside g a c) : Aside g w c :=
  ⟨Nat.le_trans h.size h2.size, fun b hb hg => (h2.block b (Nat.lt_of_lt_of_le hb h.size) hg).trans (h.block b hb hg)⟩
theorem Aside.set {g : Nat} (w : World) (j : Nat) (v : Value) : Aside g w (w.setCell ⟨g, j, none⟩ v) :=
  ⟨by simp, fun b _ hb => Below.heap_setCell w ⟨g, j, none⟩ v b (fun e => hb e)⟩
theorem Blk.aside {g : Nat} {w w' : World} {b : Nat} {C : Array Value} {T : TypeId} (h : Blk w b C T) (ha : Aside g w w') (hb : b ≠ g) : Blk w' b C T := (ha.block b h.lt hb).trans h
theorem cell_aside {g : Nat} {w w' : World} {b j : Nat} {v : Value} (ha : Aside g w w') (h : w.cell? ⟨b, j, none⟩ = some v) (hb : b ≠ g) : w'.cell? ⟨b, j, none⟩ = some v := by
  have hl := World.block_lt_of_cell? w _ h
  unfold World.cell? at h ⊢
  rw [ha.block b hl hb]
  exact h
/-- a row of texts, its cell in block g -/
def RowAt (w : World) (g N : Nat) (A : Option Addr) (ts : List ByteArray) : Prop := ts = [] ∨ ∃ b o, A = some ⟨b, o, none⟩ ∧ (b ≠ g ∧ b < N) ∧ ∀ i (h : i < ts.length), w.cell? ⟨b, o + i, none⟩ = some (.string ts[i])
theorem RowAt.aside {g N : Nat} {w w' : World} {A : Option Addr} {ts : List ByteArray} (h : RowAt w g N A ts) (ha : Aside g w w') : RowAt w' g N A ts := by
  rcases h with h | ⟨b, o, h1, h2, h3⟩
  · exact .inl h
  · exact .inr ⟨b, o, h1, h2, fun i hi => cell_aside ha (h3 i hi) h2.1⟩
def WordsAt (w : World) (g N : Nat) (ts : List ByteArray) : Prop := ∃ A cap, Blk w g #[.slice A ts.length cap] 46 ∧ ts.length ≤ cap ∧ cap ≤ maxLen ∧ RowAt w g N A ts
theorem WordsAt.of {w w' : World} {g N : Nat} {ts : List ByteArray} (h : WordsAt w g N ts) (hb : Below w.heap.size w w') : WordsAt w' g N ts := by
  obtain ⟨A, cap, h1, h2, h3, h4⟩ := h
  exact ⟨A, cap, h1.under hb h1.lt, h2, h3, h4.aside (Aside.of hb)⟩
/-- a block behind the row's end may be written -/
theorem WordsAt.far {w : World} {g N : Nat} {ts : List ByteArray} (h : WordsAt w g N ts) {d : Nat} (hd : N ≤ d) (hg : g ≠ d) (j : Nat) (v : Value) : WordsAt (w.setCell ⟨d, j, none⟩ v) g N ts := by
  obtain ⟨A, cap, h1, h2, h3, h4⟩ := h
  refine ⟨A, cap, h1.far ⟨d, j, none⟩ v hg, h2, h3, ?_⟩
  rcases h4 with h4 | ⟨b, o, e1, e2, e3⟩
  · exact .inl h4
  · refine .inr ⟨b, o, e1, e2, fun i hi => ?_⟩
    have hne : b ≠ d := by omega
    have := e3 i hi
    unfold World.cell? at this ⊢
    rw [Below.heap_setCell w ⟨d, j, none⟩ v b hne]
    exact this
theorem Aside.far {g : Nat} {w a : World} (h : Aside g w a) {d : Nat} (hd : w.heap.size ≤ d) (j : Nat) (v : Value) : Aside g w (a.setCell ⟨d, j, none⟩ v) :=
  ⟨by have := h.size; simpa using this, fun b hb hg => (Below.heap_setCell a ⟨d, j, none⟩ v b (by simp only; omega)).trans (h.block b hb hg)⟩
/-- the next text, if it is fine -/
def nextF (p : ByteArray → Bool) : List ByteArray → (ByteArray × Bool) × List ByteArray
  | [] => (({ data := #[] }, false), [])
  | t :: r => if p t then ((t, true), r) else (({ data := #[] }, false), t :: r)
theorem slice_wrap {n : Nat} (h : n ≤ maxLen) : (n : Int) ≤ 9223372036854775807 := by unfold maxLen at h; omega
set_option maxRecDepth 100000 in
set_option maxHeartbeats 4000000 in
theorem nextSmall_c (g N : Nat) (ts : List ByteArray) (w : World) (h : WordsAt w g N ts) (hs : ∀ t ∈ ts, t.size ≤ maxLen) : Calls Tryz.prog 11 #[.pointer (some ⟨g, 0, none⟩), .func (.func 12) #[] #[]] w fun e w' => e = .returned (.tuple #[.string (nextF Idn.smallB ts).1.1, .bool (nextF Idn.smallB ts).1.2]) ∧ WordsAt w' g N (nextF Idn.smallB ts).2 ∧ Below g w w' ∧ Aside g w w' := by
  obtain ⟨A, cap, hblk, hlc, hcm, hrow⟩ := h
  have HB := Lib.hid hblk
  have hg := hblk.lt
  have k0 := hblk.cell 0
  simp at k0
  cases ts with
  | nil =>
    have HR := Lib.hid hrow
    clear hrow hblk
    go_enter Tryz.func11, Tryz.ntmps11
    go_wp2_with fail
    refine bodyPost_ret (by simp [results, Tryz.results11, go_sem]; try rfl) rfl ?_
    exact ⟨rfl, ⟨A, cap, HB.out, hlc, hcm, HR.out⟩, Below.refl _ _, Aside.refl _ _⟩
  | cons t r =>
    obtain ⟨b, o, rfl, hbg, hc⟩ := hrow.resolve_left (by simp)
    have c0 := hc 0 (by simp)
    simp at c0
    have HC := Lib.hid hc
    have hts := hs t (by simp)
    have H2 := Lib.hid (fun w => Idn.Small_c t w hts)
    have hbw := World.block_lt_of_cell? w _ c0
    simp only at hbw
    have hne : ((r.length : Int) + 1 == 0) = false := by simp; omega
    have h1d : (r.length : Int) + 1 ≤ (cap : Int) := by simp at hlc; omega
    simp only [List.length_cons] at hlc HB k0
    clear hc hrow hblk hs
    cases hm : Idn.smallB t
    · rw [show nextF Idn.smallB (t :: r) = (({ data := #[] }, false), t :: r) by rw [nextF, hm]; rfl]
      rw [hm] at H2
      clear hm
      go_enter Tryz.func11, Tryz.ntmps11
      go_wp2_with (go_at_call 12; refine (H2.out _).mono ?_; rintro e w1 ⟨rfl, hb⟩; have HB1 := Lib.hid (HB.out.under hb HB.out.lt); have k1 := HB1.out.cell 0; simp at k1; have f1 := HB1.out.free 0; have c1 := (hb.cell (p := ⟨b, o, none⟩) hbw).trans c0; have hg1 := HB1.out.lt; have HE := Lib.hid hb; clear hb k0 c0)
      refine bodyPost_ret (by simp [results, Tryz.results11, go_sem]; try rfl) rfl ?_
      have hbel : Below g w w1 := HE.out.mono (Nat.le_of_lt hg)
      exact ⟨rfl, ⟨some ⟨b, o, none⟩, cap, HB1.out, hlc, hcm, (show RowAt w g N _ _ from .inr ⟨b, o, rfl, hbg, HC.out⟩).aside (Aside.of HE.out)⟩, hbel, Aside.of HE.out⟩
    · rw [show nextF Idn.smallB (t :: r) = ((t, true), r) by rw [nextF, hm]; rfl]
      rw [hm] at H2
      clear hm
      go_enter Tryz.func11, Tryz.ntmps11
      go_wp2_with (go_at_call 12; refine (H2.out _).mono ?_; rintro e w1 ⟨rfl, hb⟩; have HB1 := Lib.hid (HB.out.under hb HB.out.lt); have k1 := HB1.out.cell 0; simp at k1; have f1 := HB1.out.free 0; have c1 := (hb.cell (p := ⟨b, o, none⟩) hbw).trans c0; have hg1 := HB1.out.lt; have HE := Lib.hid hb; clear hb k0 c0)
      all_goals
        refine bodyPost_ret (by simp [results, Tryz.results11, go_sem]; try rfl) rfl ?_
        refine ⟨rfl, ⟨_, _, HB1.out.set 0 _, by omega, by omega, ?_⟩, (HE.out.mono (Nat.le_of_lt hg)).setCell (p := ⟨g, 0, none⟩) (Nat.le_refl _) _, (Aside.of HE.out).trans (Aside.set _ _ _)⟩
      · left
        exact List.eq_nil_of_length_eq_zero (by omega)
      · refine (show RowAt w g N (some ⟨b, o + 1, none⟩) r from ?_).aside ((Aside.of HE.out).trans (Aside.set _ _ _))
        exact .inr ⟨b, o + 1, rfl, hbg, fun i hi => by have := HC.out (i + 1) (by simpa using hi); rw [show o + 1 + i = o + (i + 1) by omega]; simpa using this⟩
/-- the text is the key -/
def keyP (key t : ByteArray) : Bool := t.toList == key.toList
theorem keyFn_c (kb : Nat) (key t : ByteArray) (w : World) (h : Blk w kb #[.string key] 9) : Calls Tryz.prog 28 #[.string t, .pointer (some ⟨kb, 0, none⟩)] w fun e w' => e = .returned (.bool (keyP key t)) ∧ Below w.heap.size w w' := by
  have k0 := h.cell 0
  simp at k0
  have hl := h.lt
  go_enter Tryz.func28, Tryz.ntmps28
  go_wp2_with fail
  go_ret
  exact ⟨rfl, Below.refl _ _⟩
set_option maxRecDepth 100000 in
set_option maxHeartbeats 4000000 in
theorem nextKey_c (kb : Nat) (key : ByteArray) (g N : Nat) (ts : List ByteArray) (w : World) (h : WordsAt w g N ts) (hkb : Blk w kb #[.string key] 9) (hkg : kb ≠ g) : Calls Tryz.prog 11 #[.pointer (some ⟨g, 0, none⟩), .func (.func 28) #[] #[.pointer (some ⟨kb, 0, none⟩)]] w fun e w' => e = .returned (.tuple #[.string (nextF (keyP key) ts).1.1, .bool (nextF (keyP key) ts).1.2]) ∧ WordsAt w' g N (nextF (keyP key) ts).2 ∧ Below g w w' ∧ Aside g w w' := by
  obtain ⟨A, cap, hblk, hlc, hcm, hrow⟩ := h
  have HB := Lib.hid hblk
  have hg := hblk.lt
  have k0 := hblk.cell 0
  simp at k0
  cases ts with
  | nil =>
    have HR := Lib.hid hrow
    clear hrow hblk
    go_enter Tryz.func11, Tryz.ntmps11
    go_wp2_with fail
    refine bodyPost_ret (by simp [results, Tryz.results11, go_sem]; try rfl) rfl ?_
    exact ⟨rfl, ⟨A, cap, HB.out, hlc, hcm, HR.out⟩, Below.refl _ _, Aside.refl _ _⟩
  | cons t r =>
    obtain ⟨b, o, rfl, hbg, hc⟩ := hrow.resolve_left (by simp)
    have c0 := hc 0 (by simp)
    simp at c0
    have HC := Lib.hid hc
    have H2 := Lib.hid (keyFn_c kb key t w hkb)
    have hbw := World.block_lt_of_cell? w _ c0
    simp only at hbw
    have hne : ((r.length : Int) + 1 == 0) = false := by simp; omega
    have h1d : (r.length : Int) + 1 ≤ (cap : Int) := by simp at hlc; omega
    simp only [List.length_cons] at hlc HB k0
    clear hc hrow hblk
    cases hm : keyP key t
    · rw [show nextF (keyP key) (t :: r) = (({ data := #[] }, false), t :: r) by rw [nextF, hm]; rfl]
      rw [hm] at H2
      clear hm
      go_enter Tryz.func11, Tryz.ntmps11
      go_wp2_with (go_at_call 28; refine H2.out.mono ?_; rintro e w1 ⟨rfl, hb⟩; have HB1 := Lib.hid (HB.out.under hb HB.out.lt); have k1 := HB1.out.cell 0; simp at k1; have f1 := HB1.out.free 0; have c1 := (hb.cell (p := ⟨b, o, none⟩) hbw).trans c0; have hg1 := HB1.out.lt; have HE := Lib.hid hb; clear hb k0 c0)
      refine bodyPost_ret (by simp [results, Tryz.results11, go_sem]; try rfl) rfl ?_
      have hbel : Below g w w1 := HE.out.mono (Nat.le_of_lt hg)
      exact ⟨rfl, ⟨some ⟨b, o, none⟩, cap, HB1.out, hlc, hcm, (show RowAt w g N _ _ from .inr ⟨b, o, rfl, hbg, HC.out⟩).aside (Aside.of HE.out)⟩, hbel, Aside.of HE.out⟩
    · rw [show nextF (keyP key) (t :: r) = ((t, true), r) by rw [nextF, hm]; rfl]
      rw [hm] at H2
      clear hm
      go_enter Tryz.func11, Tryz.ntmps11
      go_wp2_with (go_at_call 28; refine H2.out.mono ?_; rintro e w1 ⟨rfl, hb⟩; have HB1 := Lib.hid (HB.out.under hb HB.out.lt); have k1 := HB1.out.cell 0; simp at k1; have f1 := HB1.out.free 0; have c1 := (hb.cell (p := ⟨b, o, none⟩) hbw).trans c0; have hg1 := HB1.out.lt; have HE := Lib.hid hb; clear hb k0 c0)
      all_goals
        refine bodyPost_ret (by simp [results, Tryz.results11, go_sem]; try rfl) rfl ?_
        refine ⟨rfl, ⟨_, _, HB1.out.set 0 _, by omega, by omega, ?_⟩, (HE.out.mono (Nat.le_of_lt hg)).setCell (p := ⟨g, 0, none⟩) (Nat.le_refl _) _, (Aside.of HE.out).trans (Aside.set _ _ _)⟩
      · left
        exact List.eq_nil_of_length_eq_zero (by omega)
      · refine (show RowAt w g N (some ⟨b, o + 1, none⟩) r from ?_).aside ((Aside.of HE.out).trans (Aside.set _ _ _))
        exact .inr ⟨b, o + 1, rfl, hbg, fun i hi => by have := HC.out (i + 1) (by simpa using hi); rw [show o + 1 + i = o + (i + 1) by omega]; simpa using this⟩
end Go.Proofs.YtlpgkldialmofaaGreatDoor
