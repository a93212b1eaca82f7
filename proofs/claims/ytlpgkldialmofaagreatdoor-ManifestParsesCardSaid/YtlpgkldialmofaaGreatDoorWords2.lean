/- The contracts of manifest's words: key, joined. -/
import Derived.Test.YtlpgkldialmofaaGreatDoorWords
import Derived.Test.YtlpgkldialmofaaGreatDoorLibJ
namespace Go.Proofs.YtlpgkldialmofaaGreatDoor
open Go.RowKit
set_option linter.unusedSimpArgs false
set_option linter.unusedVariables false
set_option maxRecDepth 100000 in
set_option maxHeartbeats 4000000 in
theorem key_c (key : ByteArray) (g N : Nat) (ts : List ByteArray) (w : World) (h : WordsAt w g N ts) (hg : g < w.heap.size) : Calls Tryz.prog 10 #[.pointer (some ⟨g, 0, none⟩), .string key] w fun e w' => e = .returned (.bool (nextF (keyP key) ts).1.2) ∧ WordsAt w' g N (nextF (keyP key) ts).2 ∧ Below g w w' ∧ Aside g w w' := by
  have hb0 : Below w.heap.size w (w.alloc (.cells #[.string key] 9)) := (Below.refl _ _).alloc (Nat.le_refl _) _
  have H := Lib.hid (h.of hb0)
  have HK := Lib.hid (Blk.new w #[.string key] 9)
  have HB := Lib.hid hb0
  have hne : w.heap.size ≠ g := by omega
  obtain ⟨X, hX⟩ : ∃ X, nextF (keyP key) ts = X := ⟨_, rfl⟩
  have hnx := nextKey_c w.heap.size key g N ts _ H.out HK.out hne
  rw [hX] at hnx ⊢
  have HNX := Lib.hid hnx
  clear hnx hX h hb0
  go_enter Tryz.func10, Tryz.ntmps10
  go_wp2_with (go_at_call 11; refine HNX.out.mono ?_; rintro e w2 ⟨rfl, h1, h2, h3⟩; have HE := Lib.hid (And.intro h1 (And.intro h2 h3)); clear h1 h2 h3)
  go_ret
  exact ⟨rfl, HE.out.1, (HB.out.mono (Nat.le_of_lt hg)).trans HE.out.2.1, (Aside.of HB.out).trans HE.out.2.2⟩
/-- texts put together -/
def catL (ts : List ByteArray) : List UInt8 := (ts.map (·.data.toList)).flatten
theorem join_cat (ts : List ByteArray) : Lib.join (ts.map (·.data.toList)) [] = catL ts := by
  unfold Lib.join catL
  generalize ts.map (·.data.toList) = l
  induction l with
  | nil => rfl
  | cons x r ih =>
    cases r with
    | nil => simp [List.intercalate]
    | cons y r => simp only [List.intercalate, List.intersperse_cons_cons, List.flatten_cons, List.nil_append] at ih ⊢; rw [ih]
theorem catL_take (ts : List ByteArray) (n : Nat) : (catL (ts.take n)).length ≤ (catL ts).length := by
  have e : catL ts = catL (ts.take n) ++ catL (ts.drop n) := by
    conv => lhs; rw [← List.take_append_drop n ts]
    simp only [catL, List.map_append, List.flatten_append]
  rw [e, List.length_append]
  omega
set_option maxRecDepth 100000 in
set_option maxHeartbeats 4000000 in
theorem joined_c (n : Nat) (g N : Nat) (ts : List ByteArray) (w : World) (h : WordsAt w g N ts) (hg : g < w.heap.size) (hn1 : 1 ≤ n) (hn : n ≤ 100) (hc : (catL ts).length ≤ 140737488355328) (hl : ts.length ≤ 140737488355328) : Calls Tryz.prog 14 #[.pointer (some ⟨g, 0, none⟩), .int .i64 (n : Nat)] w fun e w' => e = .returned (.string (ba (catL (ts.take n)))) ∧ WordsAt w' g N (ts.drop n) ∧ Below g w w' ∧ Aside g w w' := by
  obtain ⟨A, cap, hblk, hlc, hcm, hrow⟩ := h
  have HB := Lib.hid hblk
  have k0 := hblk.cell 0
  simp at k0
  have f0 := hblk.free 0
  by_cases hz : ts = []
  · subst hz
    rw [List.take_nil, List.drop_nil]
    have hmI : (min (n : Int) 0) = 0 := by omega
    clear hrow hblk
    have HN := Lib.hid hn1
    clear hn1 hc
    simp only [List.length_nil] at k0 HB
    rcases A with _ | A
    all_goals
      go_enter Tryz.func14, Tryz.ntmps14
      go_wp2_with (go_at_call 35; refine (join0_c _ _ _ _).mono ?_; rintro e w1 ⟨rfl, rfl⟩)
    all_goals
      go_ret
      refine ⟨rfl, ⟨_, _, HB.out.set 0 _, by simp, by omega, .inl rfl⟩, (Below.refl _ _).setCell (p := ⟨g, 0, none⟩) (Nat.le_refl _) _, Aside.set _ _ _⟩
  · have hz2 : ¬ ts.length = 0 := fun e => hz (List.eq_nil_of_length_eq_zero e)
    obtain ⟨b, o, rfl, hbg, hc2⟩ := hrow.resolve_left hz
    have c0 := hc2 0 (by omega)
    have hbw := World.block_lt_of_cell? w _ c0
    simp only at hbw
    have HC := Lib.hid hc2
    obtain ⟨m, hm⟩ : ∃ m, min n ts.length = m := ⟨_, rfl⟩
    have hmt : ts.take n = ts.take m := by rw [← hm, List.take_eq_take_iff]; omega
    have hmd : ts.drop n = ts.drop m := by rw [← hm, List.drop_eq_drop_iff]; omega
    have hml : (ts.take m).length = m := by rw [List.length_take]; omega
    have hj := join_c b o cap (ts.take m) { data := #[] } w (fun j x hx => by
      have hjl : j < (ts.take m).length := (List.getElem?_eq_some_iff.1 hx).1
      rw [HC.out j (by rw [hml] at hjl; omega)]
      rw [List.getElem?_eq_getElem hjl] at hx
      injection hx with hx
      rw [← hx, List.getElem_take]) hbw (by rw [hml]; omega) (by rw [hml]; omega) (by rw [show ({ data := #[] } : ByteArray).data.toList = [] from rfl, join_cat]; exact Nat.le_trans (catL_take _ _) hc)
    rw [show ({ data := #[] } : ByteArray).data.toList = [] from rfl, join_cat, hml] at hj
    have HJ := Lib.hid hj
    rw [hmt, hmd]
    have hmI : (min (n : Int) (ts.length : Int)) = (m : Int) := by omega
    have hm1 : 1 ≤ m := by omega
    have hmle : (m : Int) ≤ (ts.length : Int) := by omega
    have hmc : (m : Int) ≤ (cap : Int) := by omega
    have hlcI : (ts.length : Int) ≤ (cap : Int) := by omega
    clear hj hmt hmd hc2 c0 hrow
    go_enter Tryz.func14, Tryz.ntmps14
    go_wp2_with (go_at_call 35; refine HJ.out.mono ?_; rintro e w1 ⟨rfl, hb⟩; have HB1 := Lib.hid (HB.out.under hb HB.out.lt); have k1 := HB1.out.cell 0; simp at k1; have f1 := HB1.out.free 0; have hg1 := HB1.out.lt; have HE := Lib.hid hb; clear hb k0 f0)
    all_goals
      go_ret
      refine ⟨rfl, ⟨_, _, by rw [List.length_drop]; exact HB1.out.set 0 _, by rw [List.length_drop]; omega, by omega, ?_⟩, (HE.out.mono (Nat.le_of_lt hg)).setCell (p := ⟨g, 0, none⟩) (Nat.le_refl _) _, (Aside.of HE.out).trans (Aside.set _ _ _)⟩
    all_goals first
      | (refine (show RowAt w g N (some ⟨b, o + m, none⟩) (ts.drop m) from ?_).aside ((Aside.of HE.out).trans (Aside.set _ _ _))
         exact .inr ⟨b, o + m, rfl, hbg, fun i hi => by rw [List.length_drop] at hi; have := HC.out (m + i) (by omega); rw [List.getElem_drop, show o + m + i = o + (m + i) by omega]; exact this⟩)
      | (left
         exact List.drop_eq_nil_of_le (by omega))
end Go.Proofs.YtlpgkldialmofaaGreatDoor
