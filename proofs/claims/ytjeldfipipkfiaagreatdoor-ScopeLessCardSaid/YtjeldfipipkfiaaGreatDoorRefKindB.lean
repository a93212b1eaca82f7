/- The contracts of merlonref04: Many, Deep, Plain; the premise on Many: the tree is small enough to be gone through. -/
import Derived.Test.YtjeldfipipkfiaaGreatDoorRefKind
namespace Go.Proofs.YtjeldfipipkfiaaGreatDoor
open Go.RowKit
mutual
def manyT : Ty → Int
  | .mk _ _ _ _ _ _ ss => 1 + manyL ss
def manyL : List Ty → Int
  | [] => 0
  | s :: ss => manyT s + manyL ss
end
mutual
def deepT : Ty → Int
  | .mk _ _ _ _ _ _ ss => deepL ss + 1
def deepL : List Ty → Int
  | [] => 0
  | s :: ss => max (deepT s) (deepL ss)
end
theorem manyT_eq (t : Ty) : manyT t = 1 + manyL t.subs := by cases t; rw [manyT]; rfl
theorem deepT_eq (t : Ty) : deepT t = deepL t.subs + 1 := by cases t; rw [deepT]; rfl
theorem many_pos (t : Ty) : 1 ≤ manyT t := by
  induction t using Ty.ind with
  | h t ih =>
    rw [manyT_eq]
    have key : ∀ l : List Ty, (∀ s ∈ l, s ∈ t.subs) → 0 ≤ manyL l := by
      intro l
      induction l with
      | nil => intro _; rw [manyL]; omega
      | cons s l ihl =>
        intro hm
        rw [manyL]
        have := ih s (hm s (by simp))
        have := ihl (fun x hx => hm x (by simp [hx]))
        omega
    have := key t.subs (fun _ h => h)
    omega
theorem manyL_pos : ∀ l : List Ty, 0 ≤ manyL l
  | [] => by rw [manyL]; omega
  | s :: l => by rw [manyL]; have := many_pos s; have := manyL_pos l; omega
theorem manyL_mem : ∀ {l : List Ty} {s : Ty}, s ∈ l → manyT s ≤ manyL l
  | x :: l, s, h => by
    rw [manyL]
    have := manyL_pos l
    have := many_pos x
    rcases List.mem_cons.1 h with rfl | h
    · omega
    · have := manyL_mem h; omega
theorem manyL_drop (l : List Ty) (k : Nat) : manyL (l.drop k) ≤ manyL l := by
  induction l generalizing k with
  | nil => simp
  | cons x l ih =>
    cases k with
    | zero => simp
    | succ k =>
      rw [List.drop_succ_cons, manyL]
      have := ih k
      have := many_pos x
      omega
theorem deep_bound (t : Ty) : 1 ≤ deepT t ∧ deepT t ≤ manyT t := by
  induction t using Ty.ind with
  | h t ih =>
    rw [manyT_eq, deepT_eq]
    have key : ∀ l : List Ty, (∀ s ∈ l, s ∈ t.subs) → 0 ≤ deepL l ∧ deepL l ≤ manyL l := by
      intro l
      induction l with
      | nil => intro _; rw [manyL, deepL]; omega
      | cons s l ihl =>
        intro hm
        rw [manyL, deepL]
        have := ih s (hm s (by simp))
        have := ihl (fun x hx => hm x (by simp [hx]))
        omega
    have := key t.subs (fun _ h => h)
    omega
theorem deepL_pos : ∀ l : List Ty, 0 ≤ deepL l
  | [] => by rw [deepL]; omega
  | s :: l => by rw [deepL]; have := deepL_pos l; omega
set_option maxHeartbeats 1000000 in
theorem many_c (t : Ty) : ∀ (cs : Array Value) (B : Nat) (w : World), TyC w B t cs → B ≤ w.heap.size → manyT t ≤ 1000000000 →
    Calls Tryz.prog 60 #[.agg cs] w fun e w' => e = .returned (.int .i64 (manyT t)) ∧ Below w.heap.size w w' := by
  induction t using Ty.ind with
  | h t ih =>
    intro cs B w ht hB hmx
    obtain ⟨na, nc, sa, sc, f, rfl, hf, hn, hs, hnc, hsc, hsub⟩ := ht.inv
    have HE := Lib.hid (manyT_eq t)
    have HI := Lib.hid ih
    have HS := Lib.hid hs
    have HU := Lib.hid hsub
    have hnm := hf.subs
    unfold maxLen at hnm
    clear ih hf hn hs hsub ht
    have hmx' : 1 + manyL t.subs ≤ 1000000000 := by rw [← HE.out]; exact hmx
    clear hmx
    go_enter Tryz.func60, Tryz.ntmps60
    simp only [tyCells]
    go_wp2
    go_loopw [3, 4] (fun m i wr => ∃ (k : Nat) (c : Int), k ≤ t.subs.length ∧ i = .int .i64 k ∧ m = .int .i64 c ∧ Below w.heap.size w wr ∧ BoxAt wr w.heap.size (tyCells t na nc sa sc) ∧ c + manyL (t.subs.drop k) = 1 + manyL t.subs ∧ 1 ≤ c) (fun _ i _ => t.subs.length - (intOf i).toNat)
    case atStart => exact ⟨0, 1, Nat.zero_le _, rfl, rfl, (Below.refl _ _).alloc (Nat.le_refl _) _, BoxAt.new _ _ _, rfl, by omega⟩
    case round =>
      obtain ⟨k, c, hk, rfl, rfl, hacc, hbx, heq⟩ := hrel
      have HQ := Lib.hid heq
      have HX := Lib.hid hbx
      obtain ⟨hx1, hx2⟩ := hbx
      unfold tyCells at hx2
      have hsz := hacc.size
      clear heq
      have hc1 : 1 ≤ c := HQ.out.2
      by_cases hlt : k < t.subs.length
      · have hT := (HU.out k hlt).under (hacc.mono hB)
        obtain ⟨b, o, na', nc', sa', sc', rfl, hbb, hfk, c0, c1, c2, c3, c4, c5, c6⟩ := TyC.elem (HS.out.keep fun p hp => hacc.cell (p := p) (by omega)) hlt hT
        have HK := Lib.hid hfk
        have hdrop := Lib.hid (List.drop_eq_getElem_cons hlt)
        clear hfk
        have hmm := manyL_mem (List.getElem_mem hlt)
        have hp1 := many_pos t.subs[k]
        have hcm : c + manyT t.subs[k] ≤ 1000000000 := by
          have h := HQ.out.1
          rw [hdrop.out, manyL] at h
          have := manyL_pos (t.subs.drop (k + 1))
          omega
        go_wp2_with fail
        have hcall := HI.out t.subs[k] (List.getElem_mem hlt) _ B _ hT (Nat.le_trans hB hsz) (by omega)
        rw [HK.out] at hcall
        refine hcall.mono ?_
        clear hcall
        rintro e w1 ⟨rfl, hb1⟩
        go_wp2
        refine ⟨⟨k + 1, _, by omega, by go_num, rfl, acc0 hacc hsz hb1, HX.out.under hb1, ?_, by omega⟩, by simp [intOf]; omega⟩
        have h := HQ.out.1
        rw [hdrop.out, manyL] at h
        omega
      · go_wp2
        go_ret
        have h := HQ.out.1
        rw [List.drop_of_length_le (by omega), manyL] at h
        exact ⟨ret_i (by rw [HE.out]; omega), hacc⟩
set_option maxHeartbeats 1000000 in
theorem deep_c (t : Ty) : ∀ (cs : Array Value) (B : Nat) (w : World), TyC w B t cs → B ≤ w.heap.size → manyT t ≤ 1000000000 →
    Calls Tryz.prog 61 #[.agg cs] w fun e w' => e = .returned (.int .i64 (deepT t)) ∧ Below w.heap.size w w' := by
  induction t using Ty.ind with
  | h t ih =>
    intro cs B w ht hB hmx
    obtain ⟨na, nc, sa, sc, f, rfl, hf, hn, hs, hnc, hsc, hsub⟩ := ht.inv
    have HE := Lib.hid (deepT_eq t)
    have HI := Lib.hid ih
    have HS := Lib.hid hs
    have HU := Lib.hid hsub
    have hnm := hf.subs
    unfold maxLen at hnm
    clear ih hf hn hs hsub ht
    have hmx' : 1 + manyL t.subs ≤ 1000000000 := by rw [← manyT_eq]; exact hmx
    have hdm := (deep_bound t).2
    have hdl := deepL_pos t.subs
    have hd1 := HE.out
    have hdb : 0 ≤ deepL t.subs ∧ deepL t.subs ≤ 1000000000 := by omega
    clear hmx hdm hdl hd1
    go_enter Tryz.func61, Tryz.ntmps61
    simp only [tyCells]
    go_wp2
    go_loopw [3, 4] (fun m i wr => ∃ (k : Nat) (c : Int), k ≤ t.subs.length ∧ i = .int .i64 k ∧ m = .int .i64 c ∧ Below w.heap.size w wr ∧ BoxAt wr w.heap.size (tyCells t na nc sa sc) ∧ max c (deepL (t.subs.drop k)) = deepL t.subs ∧ 0 ≤ c) (fun _ i _ => t.subs.length - (intOf i).toNat)
    case atStart => exact ⟨0, 0, Nat.zero_le _, rfl, rfl, (Below.refl _ _).alloc (Nat.le_refl _) _, BoxAt.new _ _ _, by have := deepL_pos t.subs; simp; omega, by omega⟩
    case round =>
      obtain ⟨k, c, hk, rfl, rfl, hacc, hbx, heq⟩ := hrel
      have HQ := Lib.hid heq
      have HX := Lib.hid hbx
      obtain ⟨hx1, hx2⟩ := hbx
      unfold tyCells at hx2
      have hsz := hacc.size
      clear heq
      have hc1 : 0 ≤ c := HQ.out.2
      have hc2 : c ≤ deepL t.subs := by have := HQ.out.1; omega
      by_cases hlt : k < t.subs.length
      · have hT := (HU.out k hlt).under (hacc.mono hB)
        obtain ⟨b, o, na', nc', sa', sc', rfl, hbb, hfk, c0, c1, c2, c3, c4, c5, c6⟩ := TyC.elem (HS.out.keep fun p hp => hacc.cell (p := p) (by omega)) hlt hT
        have HK := Lib.hid hfk
        have hdrop := Lib.hid (List.drop_eq_getElem_cons hlt)
        clear hfk
        have hmm := manyL_mem (List.getElem_mem hlt)
        have hp1 := deep_bound t.subs[k]
        have hcm : max c (max (deepT t.subs[k]) (deepL (t.subs.drop (k + 1)))) = deepL t.subs := by
          have h := HQ.out.1
          rwa [hdrop.out, deepL] at h
        have HM := Lib.hid hcm
        clear hcm
        by_cases hgt : c < deepT t.subs[k]
        all_goals
          go_wp2_with fail
          have hcall := HI.out t.subs[k] (List.getElem_mem hlt) _ B _ hT (Nat.le_trans hB hsz) (by omega)
          rw [HK.out] at hcall
          refine hcall.mono ?_
          clear hcall
          rintro e w1 ⟨rfl, hb1⟩
          go_wp2
          refine ⟨⟨k + 1, _, by omega, by go_num, rfl, acc0 hacc hsz hb1, HX.out.under hb1, ?_, by omega⟩, by simp [intOf]; omega⟩
          have h := HM.out
          omega
      · go_wp2
        go_ret
        have h := HQ.out.1
        rw [List.drop_of_length_le (by omega), deepL] at h
        exact ⟨ret_i (by rw [HE.out]; omega), hacc⟩
end Go.Proofs.YtjeldfipipkfiaaGreatDoor
