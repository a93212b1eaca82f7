/- The contracts of merlonref04: few, Few, Many, Deep, Plain; no condition but those of Go's own values. -/
import Derived.Test.YtjeldfipipkfiaaGreatGKind
namespace Go.Proofs.YtjeldfipipkfiaaGreat
open Go.RowKit
mutual
def fewT : Ty → Int → Int
  | .mk _ _ _ _ _ ns ss, q => if q - 1 < 0 ∨ 200 < ns.length then -1 else fewL ss (q - 1)
def fewL : List Ty → Int → Int
  | [], q => q
  | s :: ss, q => if q < 0 then q else fewL ss (fewT s q)
end
theorem fewT_eq (t : Ty) (q : Int) : fewT t q = if q - 1 < 0 ∨ 200 < t.names.length then -1 else fewL t.subs (q - 1) := by cases t; rw [fewT]; rfl
theorem few_bound (t : Ty) : ∀ q : Int, 0 ≤ q → -1 ≤ fewT t q ∧ fewT t q ≤ q := by
  induction t using Ty.ind with
  | h t ih =>
    intro q hq
    rw [fewT_eq]
    split
    · omega
    · rename_i hc
      have key : ∀ (l : List Ty) (n : Int), (∀ s ∈ l, s ∈ t.subs) → -1 ≤ n → -1 ≤ fewL l n ∧ fewL l n ≤ n := by
        intro l
        induction l with
        | nil => intro n _ h1; rw [fewL]; omega
        | cons s l ihl =>
          intro n hm h1
          rw [fewL]
          split
          · omega
          · have := ih s (hm s (by simp)) n (by omega)
            have := ihl (fewT s n) (fun x hx => hm x (by simp [hx])) (by omega)
            omega
      have := key t.subs (q - 1) (fun _ h => h) (by omega)
      omega
theorem fewL_neg (l : List Ty) (q : Int) (h : q < 0) : fewL l q = q := by
  cases l with
  | nil => rw [fewL]
  | cons s l => rw [fewL, if_pos h]
set_option maxHeartbeats 1000000 in
theorem few_c (t : Ty) : ∀ (cs : Array Value) (q : Int) (B : Nat) (w : World), TyC w B t cs → B ≤ w.heap.size → 0 ≤ q → q ≤ 1000000 →
    Calls Tryz.prog 41 #[.agg cs, .int .i64 q] w fun e w' => e = .returned (.int .i64 (fewT t q)) ∧ Below w.heap.size w w' := by
  induction t using Ty.ind with
  | h t ih =>
    intro cs q B w ht hB hq1 hq2
    obtain ⟨na, nc, sa, sc, f, rfl, hf, hn, hs, hnc, hsc, hsub⟩ := ht.inv
    have HE := Lib.hid (fewT_eq t q)
    have HI := Lib.hid ih
    have HF := Lib.hid hf
    have HS := Lib.hid hs
    have HU := Lib.hid hsub
    clear ih hf hn hs hsub ht
    by_cases hz : q - 1 < 0
    · have HR := Lib.hid (show fewT t q = -1 by rw [HE.out, if_pos (.inl hz)])
      go_enter Tryz.func41, Tryz.ntmps41
      simp only [tyCells]
      go_wp2
      go_ret
      exact ⟨ret_i HR.out.symm, (Below.refl _ _).alloc (Nat.le_refl _) _⟩
    · by_cases hn2 : 200 < t.names.length
      · have HR := Lib.hid (show fewT t q = -1 by rw [HE.out, if_pos (.inr hn2)])
        go_enter Tryz.func41, Tryz.ntmps41
        simp only [tyCells]
        go_wp2
        go_ret
        exact ⟨ret_i HR.out.symm, (Below.refl _ _).alloc (Nat.le_refl _) _⟩
      · have HR := Lib.hid (show fewL t.subs (q - 1) = fewT t q by rw [HE.out, if_neg (by omega)])
        have hnm := HF.out.subs
        unfold maxLen at hnm
        go_enter Tryz.func41, Tryz.ntmps41
        simp only [tyCells]
        go_wp2
        go_loopw [1, 5] (fun m i wr => ∃ (k : Nat) (c : Int), k ≤ t.subs.length ∧ i = .int .i64 k ∧ m = .int .i64 c ∧ Below w.heap.size w wr ∧ BoxAt wr w.heap.size (tyCells t na nc sa sc) ∧ -1 ≤ c ∧ c ≤ 1000000 ∧ fewL (t.subs.drop k) c = fewT t q) (fun _ i _ => t.subs.length - (intOf i).toNat)
        case atStart => exact ⟨0, q - 1, Nat.zero_le _, rfl, rfl, (Below.refl _ _).alloc (Nat.le_refl _) _, BoxAt.new _ _ _, by omega, by omega, HR.out⟩
        case round =>
          obtain ⟨k, c, hk, rfl, rfl, hacc, hbx, hc1, hc2, heq⟩ := hrel
          have HQ := Lib.hid heq
          have HX := Lib.hid hbx
          obtain ⟨hx1, hx2⟩ := hbx
          unfold tyCells at hx2
          have hsz := hacc.size
          clear heq
          by_cases hlt : k < t.subs.length
          · by_cases hc : 0 ≤ c
            · have hT := (HU.out k hlt).under (hacc.mono hB)
              obtain ⟨b, o, na', nc', sa', sc', rfl, hbb, hfk, c0, c1, c2, c3, c4, c5, c6⟩ := TyC.elem (HS.out.keep fun p hp => hacc.cell (p := p) (by omega)) hlt hT
              have HK := Lib.hid hfk
              have hdrop := Lib.hid (List.drop_eq_getElem_cons hlt)
              have hbd := few_bound t.subs[k] c hc
              clear hfk
              go_wp2_with fail
              have hcall := HI.out t.subs[k] (List.getElem_mem hlt) _ c B _ hT (Nat.le_trans hB hsz) hc hc2
              rw [HK.out] at hcall
              refine hcall.mono ?_
              clear hcall
              rintro e w1 ⟨rfl, hb1⟩
              go_wp2
              refine ⟨⟨k + 1, _, by omega, by go_num, rfl, acc0 hacc hsz hb1, HX.out.under hb1, by omega, by omega, ?_⟩, by simp [intOf]; omega⟩
              have h := HQ.out
              rw [hdrop.out, fewL, if_neg (by omega)] at h
              exact h
            · go_wp2
              go_ret
              have h := HQ.out
              rw [fewL_neg _ _ (by omega)] at h
              exact ⟨ret_i h, hacc⟩
          · go_wp2
            go_ret
            have h := HQ.out
            rw [List.drop_of_length_le (by omega), fewL] at h
            exact ⟨ret_i h, hacc⟩
def FewB (t : Ty) : Bool := decide (0 ≤ fewT t 3000)
theorem Few_c (t : Ty) (cs : Array Value) (B : Nat) (w : World) (ht : TyC w B t cs) (hB : B ≤ w.heap.size) :
    Calls Tryz.prog 20 #[.agg cs] w fun e w' => e = .returned (.bool (FewB t)) ∧ Below w.heap.size w w' := by
  obtain ⟨na, nc, sa, sc, f, rfl, -⟩ := ht.inv
  have HT := Lib.hid ht
  clear ht
  go_enter Tryz.func20, Tryz.ntmps20
  simp only [tyCells]
  go_wp2_with fail
  refine (few_c t _ 3000 B _ (HT.out.alloc hB _) (by simp; omega) (by omega) (by omega)).mono ?_
  rintro e w1 ⟨rfl, hb⟩
  go_wp2
  go_ret
  exact ⟨rfl, acc1 (Below.refl _ _) (Nat.le_refl _) hb⟩
end Go.Proofs.YtjeldfipipkfiaaGreat
namespace Go.Proofs.YtjeldfipipkfiaaGreat
open Go.RowKit
mutual
def manyT : Ty → Int
  | .mk _ _ _ _ _ _ ss => 1 + manyL ss
def manyL : List Ty → Int
  | [] => 0
  | s :: ss => manyT s + manyL ss
end
mutual
def deepT : Ty → Int
  | .mk _ _ _ _ _ _ ss => deepL ss + 1
def deepL : List Ty → Int
  | [] => 0
  | s :: ss => max (deepT s) (deepL ss)
end
theorem manyT_eq (t : Ty) : manyT t = 1 + manyL t.subs := by cases t; rw [manyT]; rfl
theorem deepT_eq (t : Ty) : deepT t = deepL t.subs + 1 := by cases t; rw [deepT]; rfl
theorem many_pos (t : Ty) : 1 ≤ manyT t := by
  induction t using Ty.ind with
  | h t ih =>
    rw [manyT_eq]
    have key : ∀ l : List Ty, (∀ s ∈ l, s ∈ t.subs) → 0 ≤ manyL l := by
      intro l
      induction l with
      | nil => intro _; rw [manyL]; omega
      | cons s l ihl =>
        intro hm
        rw [manyL]
        have := ih s (hm s (by simp))
        have := ihl (fun x hx => hm x (by simp [hx]))
        omega
    have := key t.subs (fun _ h => h)
    omega
theorem manyL_pos : ∀ l : List Ty, 0 ≤ manyL l
  | [] => by rw [manyL]; omega
  | s :: l => by rw [manyL]; have := many_pos s; have := manyL_pos l; omega
theorem manyL_mem : ∀ {l : List Ty} {s : Ty}, s ∈ l → manyT s ≤ manyL l
  | x :: l, s, h => by
    rw [manyL]
    have := manyL_pos l
    have := many_pos x
    rcases List.mem_cons.1 h with rfl | h
    · omega
    · have := manyL_mem h; omega
theorem deep_bound (t : Ty) : 1 ≤ deepT t ∧ deepT t ≤ manyT t := by
  induction t using Ty.ind with
  | h t ih =>
    rw [manyT_eq, deepT_eq]
    have key : ∀ l : List Ty, (∀ s ∈ l, s ∈ t.subs) → 0 ≤ deepL l ∧ deepL l ≤ manyL l := by
      intro l
      induction l with
      | nil => intro _; rw [manyL, deepL]; omega
      | cons s l ihl =>
        intro hm
        rw [manyL, deepL]
        have := ih s (hm s (by simp))
        have := ihl (fun x hx => hm x (by simp [hx]))
        omega
    have := key t.subs (fun _ h => h)
    omega
theorem deepL_pos : ∀ l : List Ty, 0 ≤ deepL l
  | [] => by rw [deepL]; omega
  | s :: l => by rw [deepL]; have := deepL_pos l; omega
set_option maxHeartbeats 1000000 in
theorem many_c (t : Ty) : ∀ (cs : Array Value) (B : Nat) (w : World), TyC w B t cs → B ≤ w.heap.size → manyT t ≤ 1000000000 →
    Calls Tryz.prog 112 #[.agg cs] w fun e w' => e = .returned (.int .i64 (manyT t)) ∧ Below w.heap.size w w' := by
  induction t using Ty.ind with
  | h t ih =>
    intro cs B w ht hB hmx
    obtain ⟨na, nc, sa, sc, f, rfl, hf, hn, hs, hnc, hsc, hsub⟩ := ht.inv
    have HE := Lib.hid (manyT_eq t)
    have HI := Lib.hid ih
    have HS := Lib.hid hs
    have HU := Lib.hid hsub
    have hnm := hf.subs
    unfold maxLen at hnm
    clear ih hf hn hs hsub ht
    have hmx' : 1 + manyL t.subs ≤ 1000000000 := by rw [← HE.out]; exact hmx
    clear hmx
    go_enter Tryz.func112, Tryz.ntmps112
    simp only [tyCells]
    go_wp2
    go_loopw [3, 4] (fun m i wr => ∃ (k : Nat) (c : Int), k ≤ t.subs.length ∧ i = .int .i64 k ∧ m = .int .i64 c ∧ Below w.heap.size w wr ∧ BoxAt wr w.heap.size (tyCells t na nc sa sc) ∧ c + manyL (t.subs.drop k) = 1 + manyL t.subs ∧ 1 ≤ c) (fun _ i _ => t.subs.length - (intOf i).toNat)
    case atStart => exact ⟨0, 1, Nat.zero_le _, rfl, rfl, (Below.refl _ _).alloc (Nat.le_refl _) _, BoxAt.new _ _ _, rfl, by omega⟩
    case round =>
      obtain ⟨k, c, hk, rfl, rfl, hacc, hbx, heq⟩ := hrel
      have HQ := Lib.hid heq
      have HX := Lib.hid hbx
      obtain ⟨hx1, hx2⟩ := hbx
      unfold tyCells at hx2
      have hsz := hacc.size
      clear heq
      have hc1 : 1 ≤ c := HQ.out.2
      by_cases hlt : k < t.subs.length
      · have hT := (HU.out k hlt).under (hacc.mono hB)
        obtain ⟨b, o, na', nc', sa', sc', rfl, hbb, hfk, c0, c1, c2, c3, c4, c5, c6⟩ := TyC.elem (HS.out.keep fun p hp => hacc.cell (p := p) (by omega)) hlt hT
        have HK := Lib.hid hfk
        have hdrop := Lib.hid (List.drop_eq_getElem_cons hlt)
        clear hfk
        have hmm := manyL_mem (List.getElem_mem hlt)
        have hp1 := many_pos t.subs[k]
        have hcm : c + manyT t.subs[k] ≤ 1000000000 := by
          have h := HQ.out.1
          rw [hdrop.out, manyL] at h
          have := manyL_pos (t.subs.drop (k + 1))
          omega
        go_wp2_with fail
        have hcall := HI.out t.subs[k] (List.getElem_mem hlt) _ B _ hT (Nat.le_trans hB hsz) (by omega)
        rw [HK.out] at hcall
        refine hcall.mono ?_
        clear hcall
        rintro e w1 ⟨rfl, hb1⟩
        go_wp2
        refine ⟨⟨k + 1, _, by omega, by go_num, rfl, acc0 hacc hsz hb1, HX.out.under hb1, ?_, by omega⟩, by simp [intOf]; omega⟩
        have h := HQ.out.1
        rw [hdrop.out, manyL] at h
        omega
      · go_wp2
        go_ret
        have h := HQ.out.1
        rw [List.drop_of_length_le (by omega), manyL] at h
        exact ⟨ret_i (by rw [HE.out]; omega), hacc⟩
set_option maxHeartbeats 1000000 in
theorem deep_c (t : Ty) : ∀ (cs : Array Value) (B : Nat) (w : World), TyC w B t cs → B ≤ w.heap.size → manyT t ≤ 1000000000 →
    Calls Tryz.prog 113 #[.agg cs] w fun e w' => e = .returned (.int .i64 (deepT t)) ∧ Below w.heap.size w w' := by
  induction t using Ty.ind with
  | h t ih =>
    intro cs B w ht hB hmx
    obtain ⟨na, nc, sa, sc, f, rfl, hf, hn, hs, hnc, hsc, hsub⟩ := ht.inv
    have HE := Lib.hid (deepT_eq t)
    have HI := Lib.hid ih
    have HS := Lib.hid hs
    have HU := Lib.hid hsub
    have hnm := hf.subs
    unfold maxLen at hnm
    clear ih hf hn hs hsub ht
    have hmx' : 1 + manyL t.subs ≤ 1000000000 := by rw [← manyT_eq]; exact hmx
    have hdm := (deep_bound t).2
    have hdl := deepL_pos t.subs
    have hd1 := HE.out
    have hdb : 0 ≤ deepL t.subs ∧ deepL t.subs ≤ 1000000000 := by omega
    clear hmx hdm hdl hd1
    go_enter Tryz.func113, Tryz.ntmps113
    simp only [tyCells]
    go_wp2
    go_loopw [3, 4] (fun m i wr => ∃ (k : Nat) (c : Int), k ≤ t.subs.length ∧ i = .int .i64 k ∧ m = .int .i64 c ∧ Below w.heap.size w wr ∧ BoxAt wr w.heap.size (tyCells t na nc sa sc) ∧ max c (deepL (t.subs.drop k)) = deepL t.subs ∧ 0 ≤ c) (fun _ i _ => t.subs.length - (intOf i).toNat)
    case atStart => exact ⟨0, 0, Nat.zero_le _, rfl, rfl, (Below.refl _ _).alloc (Nat.le_refl _) _, BoxAt.new _ _ _, by have := deepL_pos t.subs; simp; omega, by omega⟩
    case round =>
      obtain ⟨k, c, hk, rfl, rfl, hacc, hbx, heq⟩ := hrel
      have HQ := Lib.hid heq
      have HX := Lib.hid hbx
      obtain ⟨hx1, hx2⟩ := hbx
      unfold tyCells at hx2
      have hsz := hacc.size
      clear heq
      have hc1 : 0 ≤ c := HQ.out.2
      have hc2 : c ≤ deepL t.subs := by have := HQ.out.1; omega
      by_cases hlt : k < t.subs.length
      · have hT := (HU.out k hlt).under (hacc.mono hB)
        obtain ⟨b, o, na', nc', sa', sc', rfl, hbb, hfk, c0, c1, c2, c3, c4, c5, c6⟩ := TyC.elem (HS.out.keep fun p hp => hacc.cell (p := p) (by omega)) hlt hT
        have HK := Lib.hid hfk
        have hdrop := Lib.hid (List.drop_eq_getElem_cons hlt)
        clear hfk
        have hmm := manyL_mem (List.getElem_mem hlt)
        have hp1 := deep_bound t.subs[k]
        have hcm : max c (max (deepT t.subs[k]) (deepL (t.subs.drop (k + 1)))) = deepL t.subs := by
          have h := HQ.out.1
          rwa [hdrop.out, deepL] at h
        have HM := Lib.hid hcm
        clear hcm
        by_cases hgt : c < deepT t.subs[k]
        all_goals
          go_wp2_with fail
          have hcall := HI.out t.subs[k] (List.getElem_mem hlt) _ B _ hT (Nat.le_trans hB hsz) (by omega)
          rw [HK.out] at hcall
          refine hcall.mono ?_
          clear hcall
          rintro e w1 ⟨rfl, hb1⟩
          go_wp2
          refine ⟨⟨k + 1, _, by omega, by go_num, rfl, acc0 hacc hsz hb1, HX.out.under hb1, ?_, by omega⟩, by simp [intOf]; omega⟩
          have h := HM.out
          omega
      · go_wp2
        go_ret
        have h := HQ.out.1
        rw [List.drop_of_length_le (by omega), deepL] at h
        exact ⟨ret_i (by rw [HE.out]; omega), hacc⟩
end Go.Proofs.YtjeldfipipkfiaaGreat
namespace Go.Proofs.YtjeldfipipkfiaaGreat
open Go.RowKit
set_option linter.unusedSimpArgs false
set_option linter.unusedVariables false
theorem less_total : ∀ x y : List UInt8, (Op.bytesLess y x || y == x) = !Op.bytesLess x y
  | [], [] => by simp [Op.bytesLess]
  | [], _ :: _ => by simp [Op.bytesLess]
  | _ :: _, [] => by simp [Op.bytesLess]
  | a :: x, b :: y => by
    have ih := less_total x y
    simp only [Op.bytesLess]
    rcases Nat.lt_trichotomy a.toNat b.toNat with h | h | h
    · have h1 : a < b := UInt8.lt_iff_toNat_lt.2 h
      have h2 : ¬ b < a := fun e => by have := UInt8.lt_iff_toNat_lt.1 e; omega
      have h3 : ¬ b = a := fun e => by subst e; omega
      simp [h1, h2, h3]
    · have e : a = b := UInt8.toNat_inj.1 h
      subst e
      have h2 : ¬ a < a := fun e => by have := UInt8.lt_iff_toNat_lt.1 e; omega
      simp [h2, ← ih]
    · have h1 : b < a := UInt8.lt_iff_toNat_lt.2 h
      have h2 : ¬ a < b := fun e => by have := UInt8.lt_iff_toNat_lt.1 e; omega
      have h3 : ¬ a = b := fun e => by subst e; omega
      simp [h1, h2, h3]
theorem lt_yes {a b : ByteArray} (h : ltB a b = true) : Op.bytesLess b.toList a.toList = false ∧ (b.toList == a.toList) = false := by
  have := less_total a.toList b.toList
  unfold ltB at h
  rw [h] at this
  simpa using this
theorem lt_no {a b : ByteArray} (h : ltB a b = false) (h2 : Op.bytesLess b.toList a.toList = false) : (b.toList == a.toList) = true := by
  have := less_total a.toList b.toList
  unfold ltB at h
  rw [h, h2] at this
  simpa using this
theorem rGreat_b (s : ByteArray) (w : World) (hs : s.size ≤ maxLen) : Calls Tryz.prog 60 #[.string s] w fun e w' => e = .returned (.bool (greatB s)) ∧ Below w.heap.size w w' :=
  (rGreat_c s w hs).mono fun _ _ ⟨he, hw⟩ => ⟨he, hw ▸ Below.refl _ _⟩
def pK (k : Int) (s : ByteArray) : Bool := (k != 5 || smallB s) && (k != 6 || greatB s)
def flatE (t : Ty) : Bool := t.pkg.toList.isEmpty && t.major == 0 && t.mod.toList.isEmpty && t.name.toList.isEmpty
def kindR (t : Ty) : Bool :=
  if t.kind = 1 ∨ t.kind = 2 ∨ t.kind = 3 then flatE t && ((t.subs.length : Int) == 0) && ((t.names.length : Int) == 0)
  else if t.kind = 4 then flatE t && ((t.subs.length : Int) == 1) && ((t.names.length : Int) == 0)
  else if t.kind = 5 then flatE t && ((t.subs.length : Int) == (t.names.length : Int))
  else if t.kind = 6 then flatE t && ((t.subs.length : Int) == (t.names.length : Int)) && decide ((0 : Int) < t.subs.length)
  else if t.kind = 7 then flatE t && decide ((0 : Int) < t.subs.length) && ((t.names.length : Int) == 0)
  else if t.kind = 8 then ((t.subs.length : Int) == 0) && ((t.names.length : Int) == 0) && t.pkg.toList.isEmpty && t.major == 0 && greatB t.name && (smallB t.mod || t.mod.toList.isEmpty)
  else if t.kind = 9 then ((t.subs.length : Int) == 0) && ((t.names.length : Int) == 0) && smallB t.pkg && smallB t.mod && greatB t.name && decide ((1 : Int) ≤ t.major) && decide (t.major ≤ 999999999)
  else false
def ownB (t : Ty) : Bool := decide ((t.subs.length : Int) ≤ 20) && namesB (pK t.kind) t.names && kindR t
set_option maxRecDepth 100000 in
set_option maxHeartbeats 4000000 in
theorem own_5 (t : Ty) (cs : Array Value) (B : Nat) (w : World) (ht : TyC w B t cs) (hB : B ≤ w.heap.size) (hn20 : (t.subs.length : Int) ≤ 20) (hk5 : (t.kind == 5) = true) (hk6 : (t.kind == 6) = false) :
    Calls Tryz.prog 151 #[.agg cs] w fun e w' => e = .returned (.bool (ownB t)) ∧ Below w.heap.size w w' := by
  obtain ⟨na, nc, sa, sc, f, rfl, hf, hn, -, hnc, hsc, -⟩ := ht.inv
  have HF := Lib.hid hf
  have HN := Lib.hid hn
  have hnm := hf.names
  unfold maxLen at hnm
  clear hf hn ht
  have hpk : ∀ s, pK t.kind s = smallB s := fun s => by simp only [beq_iff_eq] at hk5; rw [hk5]; simp [pK]
  have HPK := Lib.hid hpk
  clear hpk
  go_enter Tryz.func151, Tryz.ntmps151
  simp only [tyCells]
  go_wp2
  go_loopw [5] (fun i wr => ∃ k : Nat, k ≤ t.names.length ∧ i = .int .i64 k ∧ Below w.heap.size w wr ∧ BoxAt wr w.heap.size (tyCells t na nc sa sc) ∧ Good (pK t.kind) t.names k) (fun i _ => t.names.length - (intOf i).toNat)
  case atStart => exact ⟨0, Nat.zero_le _, rfl, (Below.refl _ _).alloc (Nat.le_refl _) _, BoxAt.new _ _ _, fun i _ hi => absurd hi (by omega)⟩
  case round =>
    obtain ⟨k, hk, rfl, hacc, hbx, hg⟩ := hrel
    have HG := Lib.hid hg
    have HX := Lib.hid hbx
    obtain ⟨hx1, hx2⟩ := hbx
    unfold tyCells at hx2
    have hsz := hacc.size
    clear hg
    by_cases hlt : k < t.names.length
    · rcases HN.out with hr | ⟨b, o, rfl, hb, hc⟩
      · rw [hr] at hlt; simp at hlt
      have HC := Lib.hid hc
      have hck : wr.cell? ⟨b, o + k, none⟩ = some (.string t.names[k]) := (hacc.cell (p := ⟨b, o + k, none⟩) (by simp; omega)).trans (hc k hlt)
      clear hc
      go_wp2_with fail
      refine (rSmall_c t.names[k] _ (HF.out.each _ (List.getElem_mem hlt))).mono ?_
      rintro e w1 ⟨rfl, hb1⟩
      have hck1 : w1.cell? ⟨b, o + k, none⟩ = some (.string t.names[k]) := (hb1.cell (p := ⟨b, o + k, none⟩) (by simp; omega)).trans hck
      have HX1 := Lib.hid (HX.out.under hb1)
      have hx3 := HX1.out.1
      have hx4 := HX1.out.2
      unfold tyCells at hx4
      have hacc1 : Below w.heap.size w w1 := acc0 hacc hsz hb1
      have hsz1 := hacc1.size
      go_wp2_with fail
      refine (rGreat_b t.names[k] _ (HF.out.each _ (List.getElem_mem hlt))).mono ?_
      rintro e w2 ⟨rfl, hb2⟩
      have hck2 : w2.cell? ⟨b, o + k, none⟩ = some (.string t.names[k]) := (hb2.cell (p := ⟨b, o + k, none⟩) (by simp; omega)).trans hck1
      have HX2 := Lib.hid (HX1.out.under hb2)
      have hx5 := HX2.out.1
      have hx6 := HX2.out.2
      unfold tyCells at hx6
      have hacc2 : Below w.heap.size w w2 := acc0 hacc1 hsz1 hb2
      clear hacc hacc1 hck hck1 hx1 hx2 hx3 hx4 hb1 hb2
      cases hsm : smallB t.names[k]
      · have HM := Lib.hid hsm
        go_wp2
        go_quiet (fail)
        go_wp2
        go_ret
        exact ⟨ret_b (by rw [ownB, good_bad (p := pK t.kind) hlt (.inl (by rw [HPK.out]; exact HM.out))]; simp), below_drewN hacc2 _⟩
      · have HM := Lib.hid hsm
        by_cases h0 : 0 < k
        · have hcp : w2.cell? ⟨b, o + (k - 1), none⟩ = some (.string (t.names[k - 1]'(by omega))) := (hacc2.cell (p := ⟨b, o + (k - 1), none⟩) (by simp; omega)).trans (HC.out (k - 1) (by omega))
          have hz1 : IntKind.i64.wrap ((k : Int) - 1) = (k : Int) - 1 := IntWalk.i64_in _ (by omega)
          have hz2 : (0 : Int) ≤ (k : Int) - 1 := by omega
          have hz3 : ((k : Int) - 1).toNat = k - 1 := by omega
          have hz4 : (k : Int) - 1 < (t.names.length : Int) := by omega
          have hz5 : decide ((0 : Int) < (k : Int)) = true := by simp; omega
          have hz6 : (0 : Int) < (k : Int) := by omega
          cases hlk : ltB (t.names[k - 1]'(by omega)) t.names[k]
          · cases hgt : Op.bytesLess t.names[k].toList (t.names[k - 1]'(by omega)).toList
            · have heq := lt_no hlk hgt
              have HL := Lib.hid hlk
              clear hlk
              go_wp2
              go_quiet (fail)
              go_wp2
              go_ret
              exact ⟨ret_b (by rw [ownB, good_bad (p := pK t.kind) hlt (.inr ⟨h0, HL.out⟩)]; simp), below_drewN hacc2 _⟩
            · have HL := Lib.hid hlk
              clear hlk
              go_wp2
              go_quiet (fail)
              go_wp2
              go_ret
              exact ⟨ret_b (by rw [ownB, good_bad (p := pK t.kind) hlt (.inr ⟨h0, HL.out⟩)]; simp), below_drewN hacc2 _⟩
          · obtain ⟨hq1, hq2⟩ := lt_yes hlk
            have HL := Lib.hid hlk
            clear hlk
            go_wp2
            go_quiet (fail)
            go_wp2
            refine ⟨⟨k + 1, by omega, by go_num, below_drewN hacc2 _, HX2.out, good_succ hlt HG.out (by rw [HPK.out]; exact HM.out) (fun _ => HL.out)⟩, by simp [intOf]; omega⟩
        · have hd : decide ((0 : Int) < (k : Int)) = false := by simp; omega
          go_wp2
          go_quiet (fail)
          go_wp2
          refine ⟨⟨k + 1, by omega, by go_num, below_drewN hacc2 _, HX2.out, good_succ hlt HG.out (by rw [HPK.out]; exact HM.out) (fun h => absurd h h0)⟩, by simp [intOf]; omega⟩
    · have e : k = t.names.length := by omega
      have hgood := Lib.hid (good_all (p := pK t.kind) (l := t.names) (by have := HG.out; rwa [e] at this))
      have HE := Lib.hid (show ownB t = kindR t by simp only [ownB, hgood.out, Bool.and_true, decide_eq_true hn20, Bool.true_and])
      clear HN HPK HG
      have k1 : (t.kind == 1) = false := by simp only [beq_iff_eq] at hk5; rw [hk5]; rfl
      have k2 : (t.kind == 2) = false := by simp only [beq_iff_eq] at hk5; rw [hk5]; rfl
      have k3 : (t.kind == 3) = false := by simp only [beq_iff_eq] at hk5; rw [hk5]; rfl
      have k4 : (t.kind == 4) = false := by simp only [beq_iff_eq] at hk5; rw [hk5]; rfl
      have k7 : (t.kind == 7) = false := by simp only [beq_iff_eq] at hk5; rw [hk5]; rfl
      have k8 : (t.kind == 8) = false := by simp only [beq_iff_eq] at hk5; rw [hk5]; rfl
      have k9 : (t.kind == 9) = false := by simp only [beq_iff_eq] at hk5; rw [hk5]; rfl
      go_wp2_with (first
        | (go_at_call 60; refine (rGreat_b _ _ HF.out.name).mono ?_; rintro e w2 ⟨rfl, hb⟩; have hacc := acc0 hacc hacc.size hb; have HX := Lib.hid (HX.out.under hb); have hx1 := HX.out.1; have hx2 := HX.out.2; unfold tyCells at hx2)
        | (go_at_call 32; refine (rSmall_c _ _ (by first | exact HF.out.mod | exact HF.out.pkg)).mono ?_; rintro e w2 ⟨rfl, hb⟩; have hacc := acc0 hacc hacc.size hb; have HX := Lib.hid (HX.out.under hb); have hx1 := HX.out.1; have hx2 := HX.out.2; unfold tyCells at hx2))
      all_goals
        go_ret
        refine ⟨ret_b ?_, hacc⟩
        rw [HE.out]
        clear HX HE hacc HF hx1 hx2 hgood hsz hnm hk hlt e hB hnc hsc
        go_tidy
        first
          | (simp_all [kindR, flatE]; done)
          | (simp_all [kindR, flatE]; omega)
set_option maxRecDepth 100000 in
set_option maxHeartbeats 4000000 in
theorem own_6 (t : Ty) (cs : Array Value) (B : Nat) (w : World) (ht : TyC w B t cs) (hB : B ≤ w.heap.size) (hn20 : (t.subs.length : Int) ≤ 20) (hk5 : (t.kind == 5) = false) (hk6 : (t.kind == 6) = true) :
    Calls Tryz.prog 151 #[.agg cs] w fun e w' => e = .returned (.bool (ownB t)) ∧ Below w.heap.size w w' := by
  obtain ⟨na, nc, sa, sc, f, rfl, hf, hn, -, hnc, hsc, -⟩ := ht.inv
  have HF := Lib.hid hf
  have HN := Lib.hid hn
  have hnm := hf.names
  unfold maxLen at hnm
  clear hf hn ht
  have hpk : ∀ s, pK t.kind s = greatB s := fun s => by simp only [beq_iff_eq] at hk6; rw [hk6]; simp [pK]
  have HPK := Lib.hid hpk
  clear hpk
  go_enter Tryz.func151, Tryz.ntmps151
  simp only [tyCells]
  go_wp2
  go_loopw [5] (fun i wr => ∃ k : Nat, k ≤ t.names.length ∧ i = .int .i64 k ∧ Below w.heap.size w wr ∧ BoxAt wr w.heap.size (tyCells t na nc sa sc) ∧ Good (pK t.kind) t.names k) (fun i _ => t.names.length - (intOf i).toNat)
  case atStart => exact ⟨0, Nat.zero_le _, rfl, (Below.refl _ _).alloc (Nat.le_refl _) _, BoxAt.new _ _ _, fun i _ hi => absurd hi (by omega)⟩
  case round =>
    obtain ⟨k, hk, rfl, hacc, hbx, hg⟩ := hrel
    have HG := Lib.hid hg
    have HX := Lib.hid hbx
    obtain ⟨hx1, hx2⟩ := hbx
    unfold tyCells at hx2
    have hsz := hacc.size
    clear hg
    by_cases hlt : k < t.names.length
    · rcases HN.out with hr | ⟨b, o, rfl, hb, hc⟩
      · rw [hr] at hlt; simp at hlt
      have HC := Lib.hid hc
      have hck : wr.cell? ⟨b, o + k, none⟩ = some (.string t.names[k]) := (hacc.cell (p := ⟨b, o + k, none⟩) (by simp; omega)).trans (hc k hlt)
      clear hc
      go_wp2_with fail
      refine (rSmall_c t.names[k] _ (HF.out.each _ (List.getElem_mem hlt))).mono ?_
      rintro e w1 ⟨rfl, hb1⟩
      have hck1 : w1.cell? ⟨b, o + k, none⟩ = some (.string t.names[k]) := (hb1.cell (p := ⟨b, o + k, none⟩) (by simp; omega)).trans hck
      have HX1 := Lib.hid (HX.out.under hb1)
      have hx3 := HX1.out.1
      have hx4 := HX1.out.2
      unfold tyCells at hx4
      have hacc1 : Below w.heap.size w w1 := acc0 hacc hsz hb1
      have hsz1 := hacc1.size
      go_wp2_with fail
      refine (rGreat_b t.names[k] _ (HF.out.each _ (List.getElem_mem hlt))).mono ?_
      rintro e w2 ⟨rfl, hb2⟩
      have hck2 : w2.cell? ⟨b, o + k, none⟩ = some (.string t.names[k]) := (hb2.cell (p := ⟨b, o + k, none⟩) (by simp; omega)).trans hck1
      have HX2 := Lib.hid (HX1.out.under hb2)
      have hx5 := HX2.out.1
      have hx6 := HX2.out.2
      unfold tyCells at hx6
      have hacc2 : Below w.heap.size w w2 := acc0 hacc1 hsz1 hb2
      clear hacc hacc1 hck hck1 hx1 hx2 hx3 hx4 hb1 hb2
      cases hsm : greatB t.names[k]
      · have HM := Lib.hid hsm
        go_wp2
        go_quiet (fail)
        go_wp2
        go_ret
        exact ⟨ret_b (by rw [ownB, good_bad (p := pK t.kind) hlt (.inl (by rw [HPK.out]; exact HM.out))]; simp), below_drewN hacc2 _⟩
      · have HM := Lib.hid hsm
        by_cases h0 : 0 < k
        · have hcp : w2.cell? ⟨b, o + (k - 1), none⟩ = some (.string (t.names[k - 1]'(by omega))) := (hacc2.cell (p := ⟨b, o + (k - 1), none⟩) (by simp; omega)).trans (HC.out (k - 1) (by omega))
          have hz1 : IntKind.i64.wrap ((k : Int) - 1) = (k : Int) - 1 := IntWalk.i64_in _ (by omega)
          have hz2 : (0 : Int) ≤ (k : Int) - 1 := by omega
          have hz3 : ((k : Int) - 1).toNat = k - 1 := by omega
          have hz4 : (k : Int) - 1 < (t.names.length : Int) := by omega
          have hz5 : decide ((0 : Int) < (k : Int)) = true := by simp; omega
          have hz6 : (0 : Int) < (k : Int) := by omega
          cases hlk : ltB (t.names[k - 1]'(by omega)) t.names[k]
          · cases hgt : Op.bytesLess t.names[k].toList (t.names[k - 1]'(by omega)).toList
            · have heq := lt_no hlk hgt
              have HL := Lib.hid hlk
              clear hlk
              go_wp2
              go_quiet (fail)
              go_wp2
              go_ret
              exact ⟨ret_b (by rw [ownB, good_bad (p := pK t.kind) hlt (.inr ⟨h0, HL.out⟩)]; simp), below_drewN hacc2 _⟩
            · have HL := Lib.hid hlk
              clear hlk
              go_wp2
              go_quiet (fail)
              go_wp2
              go_ret
              exact ⟨ret_b (by rw [ownB, good_bad (p := pK t.kind) hlt (.inr ⟨h0, HL.out⟩)]; simp), below_drewN hacc2 _⟩
          · obtain ⟨hq1, hq2⟩ := lt_yes hlk
            have HL := Lib.hid hlk
            clear hlk
            go_wp2
            go_quiet (fail)
            go_wp2
            refine ⟨⟨k + 1, by omega, by go_num, below_drewN hacc2 _, HX2.out, good_succ hlt HG.out (by rw [HPK.out]; exact HM.out) (fun _ => HL.out)⟩, by simp [intOf]; omega⟩
        · have hd : decide ((0 : Int) < (k : Int)) = false := by simp; omega
          go_wp2
          go_quiet (fail)
          go_wp2
          refine ⟨⟨k + 1, by omega, by go_num, below_drewN hacc2 _, HX2.out, good_succ hlt HG.out (by rw [HPK.out]; exact HM.out) (fun h => absurd h h0)⟩, by simp [intOf]; omega⟩
    · have e : k = t.names.length := by omega
      have hgood := Lib.hid (good_all (p := pK t.kind) (l := t.names) (by have := HG.out; rwa [e] at this))
      have HE := Lib.hid (show ownB t = kindR t by simp only [ownB, hgood.out, Bool.and_true, decide_eq_true hn20, Bool.true_and])
      clear HN HPK HG
      have k1 : (t.kind == 1) = false := by simp only [beq_iff_eq] at hk6; rw [hk6]; rfl
      have k2 : (t.kind == 2) = false := by simp only [beq_iff_eq] at hk6; rw [hk6]; rfl
      have k3 : (t.kind == 3) = false := by simp only [beq_iff_eq] at hk6; rw [hk6]; rfl
      have k4 : (t.kind == 4) = false := by simp only [beq_iff_eq] at hk6; rw [hk6]; rfl
      have k7 : (t.kind == 7) = false := by simp only [beq_iff_eq] at hk6; rw [hk6]; rfl
      have k8 : (t.kind == 8) = false := by simp only [beq_iff_eq] at hk6; rw [hk6]; rfl
      have k9 : (t.kind == 9) = false := by simp only [beq_iff_eq] at hk6; rw [hk6]; rfl
      go_wp2_with (first
        | (go_at_call 60; refine (rGreat_b _ _ HF.out.name).mono ?_; rintro e w2 ⟨rfl, hb⟩; have hacc := acc0 hacc hacc.size hb; have HX := Lib.hid (HX.out.under hb); have hx1 := HX.out.1; have hx2 := HX.out.2; unfold tyCells at hx2)
        | (go_at_call 32; refine (rSmall_c _ _ (by first | exact HF.out.mod | exact HF.out.pkg)).mono ?_; rintro e w2 ⟨rfl, hb⟩; have hacc := acc0 hacc hacc.size hb; have HX := Lib.hid (HX.out.under hb); have hx1 := HX.out.1; have hx2 := HX.out.2; unfold tyCells at hx2))
      all_goals
        go_ret
        refine ⟨ret_b ?_, hacc⟩
        rw [HE.out]
        clear HX HE hacc HF hx1 hx2 hgood hsz hnm hk hlt e hB hnc hsc
        go_tidy
        first
          | (simp_all [kindR, flatE]; done)
          | (simp_all [kindR, flatE]; omega)
set_option maxRecDepth 100000 in
set_option maxHeartbeats 4000000 in
theorem own_X (t : Ty) (cs : Array Value) (B : Nat) (w : World) (ht : TyC w B t cs) (hB : B ≤ w.heap.size) (hn20 : (t.subs.length : Int) ≤ 20) (hk5 : (t.kind == 5) = false) (hk6 : (t.kind == 6) = false) :
    Calls Tryz.prog 151 #[.agg cs] w fun e w' => e = .returned (.bool (ownB t)) ∧ Below w.heap.size w w' := by
  obtain ⟨na, nc, sa, sc, f, rfl, hf, hn, -, hnc, hsc, -⟩ := ht.inv
  have HF := Lib.hid hf
  have HN := Lib.hid hn
  have hnm := hf.names
  unfold maxLen at hnm
  clear hf hn ht
  have hpk : ∀ s, pK t.kind s = true := fun s => by simp only [beq_eq_false_iff_ne] at hk5 hk6; simp [pK, hk5, hk6]
  have HPK := Lib.hid hpk
  clear hpk
  go_enter Tryz.func151, Tryz.ntmps151
  simp only [tyCells]
  go_wp2
  go_loopw [5] (fun i wr => ∃ k : Nat, k ≤ t.names.length ∧ i = .int .i64 k ∧ Below w.heap.size w wr ∧ BoxAt wr w.heap.size (tyCells t na nc sa sc) ∧ Good (pK t.kind) t.names k) (fun i _ => t.names.length - (intOf i).toNat)
  case atStart => exact ⟨0, Nat.zero_le _, rfl, (Below.refl _ _).alloc (Nat.le_refl _) _, BoxAt.new _ _ _, fun i _ hi => absurd hi (by omega)⟩
  case round =>
    obtain ⟨k, hk, rfl, hacc, hbx, hg⟩ := hrel
    have HG := Lib.hid hg
    have HX := Lib.hid hbx
    obtain ⟨hx1, hx2⟩ := hbx
    unfold tyCells at hx2
    have hsz := hacc.size
    clear hg
    by_cases hlt : k < t.names.length
    · rcases HN.out with hr | ⟨b, o, rfl, hb, hc⟩
      · rw [hr] at hlt; simp at hlt
      have HC := Lib.hid hc
      have hck : wr.cell? ⟨b, o + k, none⟩ = some (.string t.names[k]) := (hacc.cell (p := ⟨b, o + k, none⟩) (by simp; omega)).trans (hc k hlt)
      clear hc
      go_wp2_with fail
      refine (rSmall_c t.names[k] _ (HF.out.each _ (List.getElem_mem hlt))).mono ?_
      rintro e w1 ⟨rfl, hb1⟩
      have hck1 : w1.cell? ⟨b, o + k, none⟩ = some (.string t.names[k]) := (hb1.cell (p := ⟨b, o + k, none⟩) (by simp; omega)).trans hck
      have HX1 := Lib.hid (HX.out.under hb1)
      have hx3 := HX1.out.1
      have hx4 := HX1.out.2
      unfold tyCells at hx4
      have hacc1 : Below w.heap.size w w1 := acc0 hacc hsz hb1
      have hsz1 := hacc1.size
      go_wp2_with fail
      refine (rGreat_b t.names[k] _ (HF.out.each _ (List.getElem_mem hlt))).mono ?_
      rintro e w2 ⟨rfl, hb2⟩
      have hck2 : w2.cell? ⟨b, o + k, none⟩ = some (.string t.names[k]) := (hb2.cell (p := ⟨b, o + k, none⟩) (by simp; omega)).trans hck1
      have HX2 := Lib.hid (HX1.out.under hb2)
      have hx5 := HX2.out.1
      have hx6 := HX2.out.2
      unfold tyCells at hx6
      have hacc2 : Below w.heap.size w w2 := acc0 hacc1 hsz1 hb2
      clear hacc hacc1 hck hck1 hx1 hx2 hx3 hx4 hb1 hb2
      by_cases h0 : 0 < k
      · have hcp : w2.cell? ⟨b, o + (k - 1), none⟩ = some (.string (t.names[k - 1]'(by omega))) := (hacc2.cell (p := ⟨b, o + (k - 1), none⟩) (by simp; omega)).trans (HC.out (k - 1) (by omega))
        have hz1 : IntKind.i64.wrap ((k : Int) - 1) = (k : Int) - 1 := IntWalk.i64_in _ (by omega)
        have hz2 : (0 : Int) ≤ (k : Int) - 1 := by omega
        have hz3 : ((k : Int) - 1).toNat = k - 1 := by omega
        have hz4 : (k : Int) - 1 < (t.names.length : Int) := by omega
        have hz5 : decide ((0 : Int) < (k : Int)) = true := by simp; omega
        have hz6 : (0 : Int) < (k : Int) := by omega
        cases hlk : ltB (t.names[k - 1]'(by omega)) t.names[k]
        · cases hgt : Op.bytesLess t.names[k].toList (t.names[k - 1]'(by omega)).toList
          · have heq := lt_no hlk hgt
            have HL := Lib.hid hlk
            clear hlk
            go_wp2
            go_quiet (fail)
            go_wp2
            go_ret
            exact ⟨ret_b (by rw [ownB, good_bad (p := pK t.kind) hlt (.inr ⟨h0, HL.out⟩)]; simp), below_drewN hacc2 _⟩
          · have HL := Lib.hid hlk
            clear hlk
            go_wp2
            go_quiet (fail)
            go_wp2
            go_ret
            exact ⟨ret_b (by rw [ownB, good_bad (p := pK t.kind) hlt (.inr ⟨h0, HL.out⟩)]; simp), below_drewN hacc2 _⟩
        · obtain ⟨hq1, hq2⟩ := lt_yes hlk
          have HL := Lib.hid hlk
          clear hlk
          go_wp2
          go_quiet (fail)
          go_wp2
          refine ⟨⟨k + 1, by omega, by go_num, below_drewN hacc2 _, HX2.out, good_succ hlt HG.out (HPK.out _) (fun _ => HL.out)⟩, by simp [intOf]; omega⟩
      · have hd : decide ((0 : Int) < (k : Int)) = false := by simp; omega
        go_wp2
        go_quiet (fail)
        go_wp2
        refine ⟨⟨k + 1, by omega, by go_num, below_drewN hacc2 _, HX2.out, good_succ hlt HG.out (HPK.out _) (fun h => absurd h h0)⟩, by simp [intOf]; omega⟩
    · have e : k = t.names.length := by omega
      have hgood := Lib.hid (good_all (p := pK t.kind) (l := t.names) (by have := HG.out; rwa [e] at this))
      have HE := Lib.hid (show ownB t = kindR t by simp only [ownB, hgood.out, Bool.and_true, decide_eq_true hn20, Bool.true_and])
      clear HN HPK HG
      skip
      go_wp2_with (first
        | (go_at_call 60; refine (rGreat_b _ _ HF.out.name).mono ?_; rintro e w2 ⟨rfl, hb⟩; have hacc := acc0 hacc hacc.size hb; have HX := Lib.hid (HX.out.under hb); have hx1 := HX.out.1; have hx2 := HX.out.2; unfold tyCells at hx2)
        | (go_at_call 32; refine (rSmall_c _ _ (by first | exact HF.out.mod | exact HF.out.pkg)).mono ?_; rintro e w2 ⟨rfl, hb⟩; have hacc := acc0 hacc hacc.size hb; have HX := Lib.hid (HX.out.under hb); have hx1 := HX.out.1; have hx2 := HX.out.2; unfold tyCells at hx2))
      all_goals
        go_ret
        refine ⟨ret_b ?_, hacc⟩
        rw [HE.out]
        clear HX HE hacc HF hx1 hx2 hgood hsz hnm hk hlt e hB hnc hsc
        go_tidy
        first
          | (simp_all [kindR, flatE]; done)
          | (simp_all [kindR, flatE]; omega)
set_option maxRecDepth 100000 in
theorem own_big (t : Ty) (cs : Array Value) (B : Nat) (w : World) (ht : TyC w B t cs) (hn20 : ¬ (t.subs.length : Int) ≤ 20) :
    Calls Tryz.prog 151 #[.agg cs] w fun e w' => e = .returned (.bool (ownB t)) ∧ Below w.heap.size w w' := by
  obtain ⟨na, nc, sa, sc, f, rfl, -⟩ := ht.inv
  have HE := Lib.hid (show ownB t = false by simp only [ownB, decide_eq_false hn20, Bool.false_and])
  go_enter Tryz.func151, Tryz.ntmps151
  simp only [tyCells]
  go_wp2
  go_ret
  exact ⟨ret_b HE.out.symm, (Below.refl _ _).alloc (Nat.le_refl _) _⟩
theorem own_c (t : Ty) (cs : Array Value) (B : Nat) (w : World) (ht : TyC w B t cs) (hB : B ≤ w.heap.size) :
    Calls Tryz.prog 151 #[.agg cs] w fun e w' => e = .returned (.bool (ownB t)) ∧ Below w.heap.size w w' := by
  by_cases hn : (t.subs.length : Int) ≤ 20
  · cases h5 : (t.kind == 5)
    · cases h6 : (t.kind == 6)
      · exact own_X t cs B w ht hB hn h5 h6
      · exact own_6 t cs B w ht hB hn h5 h6
    · exact own_5 t cs B w ht hB hn h5 (by simp only [beq_iff_eq] at h5; rw [h5]; rfl)
  · exact own_big t cs B w ht hn
end Go.Proofs.YtjeldfipipkfiaaGreat
namespace Go.Proofs.YtjeldfipipkfiaaGreat
open Go.RowKit
set_option linter.unusedSimpArgs false
set_option linter.unusedVariables false
theorem bare_8 (t : Ty) (h : t.kind = 8) : emptyB (bareT t) = (t.pkg.toList.isEmpty && t.major == 0) := by
  have e : (⟨#[]⟩ : ByteArray).toList.isEmpty = true := by rw [ByteArray.toList_eq]; rfl
  simp only [bareT, if_pos h, emptyB, Ty.pkg, Ty.major, Ty.mod, Ty.name, e, Bool.and_true]
theorem bare_9 (t : Ty) (h : t.kind = 9) : emptyB (bareT t) = true := by
  have e : (⟨#[]⟩ : ByteArray).toList.isEmpty = true := by rw [ByteArray.toList_eq]; rfl
  have h8 : ¬ t.kind = 8 := by omega
  simp only [bareT, if_neg h8, if_pos h, emptyB, Ty.pkg, Ty.major, Ty.mod, Ty.name, e, Bool.and_true]
  rfl
theorem bare_n (t : Ty) (h8 : ¬ t.kind = 8) (h9 : ¬ t.kind = 9) : emptyB (bareT t) = flatE t := by
  simp only [bareT, if_neg h8, if_neg h9]
  rfl
theorem own_shape (t : Ty) : ownB t = shapeB t := by
  have hnn : ∀ p, ((t.names.length : Int) == 0) = true → namesB p t.names = true := fun p h => by
    have : t.names.length = 0 := by simpa using h
    rw [List.length_eq_zero_iff.1 this]
    rfl
  simp only [ownB, shapeB, kindR, kindB]
  generalize hL : decide ((t.subs.length : Int) ≤ 20) = L
  by_cases h1 : t.kind = 1 ∨ t.kind = 2 ∨ t.kind = 3
  · rw [bare_n t (by omega) (by omega), if_pos h1, if_pos h1]
    cases hn : ((t.names.length : Int) == 0)
    · simp
    · rw [hnn _ hn]
      cases L <;> cases flatE t <;> simp
  · rw [if_neg h1, if_neg h1]
    by_cases h4 : t.kind = 4
    · rw [bare_n t (by omega) (by omega), if_pos h4, if_pos h4]
      cases hn : ((t.names.length : Int) == 0)
      · simp
      · rw [hnn _ hn]
        cases L <;> cases flatE t <;> simp
    · rw [if_neg h4, if_neg h4]
      by_cases h5 : t.kind = 5
      · have hp : pK t.kind = smallB := funext fun s => by rw [h5]; simp [pK]
        rw [bare_n t (by omega) (by omega), if_pos h5, if_pos h5, hp]
        cases L <;> cases flatE t <;> cases namesB smallB t.names <;> simp
      · rw [if_neg h5, if_neg h5]
        by_cases h6 : t.kind = 6
        · have hp : pK t.kind = greatB := funext fun s => by rw [h6]; simp [pK]
          have hd : decide ((0 : Int) < (t.subs.length : Int)) = decide ((1 : Int) ≤ (t.subs.length : Int)) := by rw [Bool.eq_iff_iff]; simp only [decide_eq_true_eq]; omega
          rw [bare_n t (by omega) (by omega), if_pos h6, if_pos h6, hp, hd]
          cases L <;> cases flatE t <;> cases namesB greatB t.names <;> cases decide ((1 : Int) ≤ (t.subs.length : Int)) <;> simp
        · rw [if_neg h6, if_neg h6]
          by_cases h7 : t.kind = 7
          · have hd : decide ((0 : Int) < (t.subs.length : Int)) = decide ((1 : Int) ≤ (t.subs.length : Int)) := by rw [Bool.eq_iff_iff]; simp only [decide_eq_true_eq]; omega
            rw [bare_n t (by omega) (by omega), if_pos h7, if_pos h7, hd]
            cases hn : ((t.names.length : Int) == 0)
            · simp
            · rw [hnn _ hn]
              cases L <;> cases flatE t <;> simp
          · rw [if_neg h7, if_neg h7]
            by_cases h8 : t.kind = 8
            · rw [bare_8 t h8, if_pos h8, if_pos h8]
              cases hn : ((t.names.length : Int) == 0)
              · simp
              · rw [hnn _ hn]
                cases L <;> cases ((t.subs.length : Int) == 0) <;> cases t.pkg.toList.isEmpty <;> cases (t.major == 0) <;> cases greatB t.name <;> cases smallB t.mod <;> cases t.mod.toList.isEmpty <;> rfl
            · rw [if_neg h8, if_neg h8]
              by_cases h9 : t.kind = 9
              · rw [bare_9 t h9]
                simp only [if_pos h9]
                cases hn : ((t.names.length : Int) == 0)
                · simp
                · rw [hnn _ hn]
                  cases L <;> simp
              · simp only [if_neg h9]
                simp
mutual
def allT : Ty → Bool
  | .mk k p m mo n ns ss => shapeB (.mk k p m mo n ns ss) && allL ss
def allL : List Ty → Bool
  | [] => true
  | s :: ss => allT s && allL ss
end
theorem allT_eq (t : Ty) : allT t = (shapeB t && allL t.subs) := by cases t; rw [allT]; rfl
theorem count_is (t : Ty) : ∀ d q : Int, countT t d q = if allT t = true ∧ deepT t ≤ d ∧ manyT t ≤ q then manyT t else 0 := by
  induction t using Ty.ind with
  | h t ih =>
    intro d q
    have hd := (deep_bound t).1
    have hm := many_pos t
    have hd0 := deepL_pos t.subs
    rw [countT_eq]
    by_cases h : d < 1 ∨ q < 1 ∨ shapeB t = false
    · rw [if_pos h, if_neg]
      rintro ⟨h1, h2, h3⟩
      rw [allT_eq, Bool.and_eq_true] at h1
      rcases h with h | h | h
      · omega
      · omega
      · rw [h] at h1; cases h1.1
    · rw [if_neg h]
      have key : ∀ (l : List Ty) (n : Int), (∀ s ∈ l, s ∈ t.subs) → 1 ≤ n → countL l d q n = if allL l = true ∧ deepL l ≤ d - 1 ∧ (l = [] ∨ n + manyL l ≤ q) then n + manyL l else 0 := by
        intro l
        induction l with
        | nil => intro n _ h1; rw [countL, allL, deepL, manyL, if_pos ⟨rfl, by omega, .inl rfl⟩]; omega
        | cons s l ihl =>
          intro n hmem h1
          have hs := ih s (hmem s (by simp)) (d - 1) (q - n)
          have hms := many_pos s
          have hml := manyL_pos l
          rw [countL, hs, allL, deepL, manyL]
          by_cases hc : allT s = true ∧ deepT s ≤ d - 1 ∧ manyT s ≤ q - n
          · rw [if_pos hc, if_neg (by omega), ihl (n + manyT s) (fun x hx => hmem x (by simp [hx])) (by omega), hc.1, Bool.true_and]
            by_cases hr : allL l = true ∧ deepL l ≤ d - 1 ∧ (l = [] ∨ n + manyT s + manyL l ≤ q)
            · rw [if_pos hr, if_pos]
              · omega
              · refine ⟨hr.1, by omega, .inr ?_⟩
                rcases hr.2.2 with h | h
                · subst h; rw [manyL]; omega
                · omega
            · rw [if_neg hr, if_neg]
              rintro ⟨e1, e2, e3⟩
              refine hr ⟨e1, by omega, .inr ?_⟩
              rcases e3 with h | h
              · cases h
              · omega
          · rw [if_neg hc, if_pos rfl, if_neg]
            rintro ⟨e1, e2, e3⟩
            rw [Bool.and_eq_true] at e1
            refine hc ⟨e1.1, by omega, ?_⟩
            rcases e3 with h | h
            · cases h
            · omega
      have hsh : shapeB t = true := by
        cases hx : shapeB t
        · exact absurd (.inr (.inr hx)) h
        · rfl
      rw [key t.subs 1 (fun _ h => h) (by omega), allT_eq, hsh, Bool.true_and, deepT_eq, manyT_eq]
      by_cases hr : allL t.subs = true ∧ deepL t.subs ≤ d - 1 ∧ (t.subs = [] ∨ 1 + manyL t.subs ≤ q)
      · rw [if_pos hr, if_pos]
        refine ⟨hr.1, by omega, ?_⟩
        rcases hr.2.2 with h' | h'
        · rw [h', manyL]; omega
        · omega
      · rw [if_neg hr, if_neg]
        rintro ⟨e1, e2, e3⟩
        exact hr ⟨e1, by omega, .inr e3⟩
def mayR (t : Ty) : Bool := allT t && decide (manyT t ≤ 500) && decide (deepT t ≤ 32)
theorem may_is (t : Ty) : mayT t = mayR t := by
  have := many_pos t
  rw [mayT, sizeT, count_is, mayR]
  by_cases h : allT t = true ∧ deepT t ≤ 32 ∧ manyT t ≤ 500
  · rw [if_pos h, h.1, decide_eq_true h.2.1, decide_eq_true h.2.2, decide_eq_true (by omega)]
    rfl
  · rw [if_neg h]
    have hz : decide ((0 : Int) < 0) = false := rfl
    rw [hz, eq_comm, Bool.and_assoc, Bool.and_eq_false_iff, Bool.and_eq_false_iff, decide_eq_false_iff_not, decide_eq_false_iff_not]
    by_cases h1 : allT t = true
    · by_cases h2 : manyT t ≤ 500
      · exact .inr (.inr fun h3 => h ⟨h1, h3, h2⟩)
      · exact .inr (.inl h2)
    · exact .inl (by simpa using h1)
theorem few_is (t : Ty) : ∀ q : Int, 0 ≤ q → 0 ≤ fewT t q → fewT t q = q - manyT t := by
  induction t using Ty.ind with
  | h t ih =>
    intro q hq h
    rw [fewT_eq] at h ⊢
    split at h
    · omega
    · rename_i hc
      rw [if_neg hc]
      have key : ∀ (l : List Ty) (n : Int), (∀ s ∈ l, s ∈ t.subs) → 0 ≤ fewL l n → fewL l n = n - manyL l := by
        intro l
        induction l with
        | nil => intro n _ _; rw [fewL, manyL]; omega
        | cons s l ihl =>
          intro n hm h1
          rw [fewL] at h1 ⊢
          split at h1
          · omega
          · rename_i hn
            rw [if_neg hn, manyL]
            have hfs : 0 ≤ fewT s n := by
              cases l with
              | nil => rwa [fewL] at h1
              | cons y l =>
                rw [fewL] at h1
                split at h1 <;> omega
            have e1 := ih s (hm s (by simp)) n (by omega) hfs
            have e2 := ihl (fewT s n) (fun x hx => hm x (by simp [hx])) h1
            omega
      have := key t.subs (q - 1) (fun _ h => h) h
      rw [manyT_eq]
      omega
theorem few_many (t : Ty) (h : FewB t = true) : manyT t ≤ 3000 := by
  have h0 : 0 ≤ fewT t 3000 := by simpa [FewB] using h
  have := few_is t 3000 (by omega) h0
  omega
set_option maxHeartbeats 1000000 in
theorem all_c (t : Ty) : ∀ (cs : Array Value) (B : Nat) (w : World), TyC w B t cs → B ≤ w.heap.size →
    Calls Tryz.prog 111 #[.agg cs] w fun e w' => e = .returned (.bool (allT t)) ∧ Below w.heap.size w w' := by
  induction t using Ty.ind with
  | h t ih =>
    intro cs B w ht hB
    have ht0 := ht
    obtain ⟨na, nc, sa, sc, f, rfl, hf, hn, hs, hnc, hsc, hsub⟩ := ht.inv
    have HT := Lib.hid ht0
    have HE := Lib.hid (allT_eq t)
    have HI := Lib.hid ih
    have HS := Lib.hid hs
    have HU := Lib.hid hsub
    have hnm := hf.subs
    unfold maxLen at hnm
    clear ih hf hn hs hsub ht ht0
    go_enter Tryz.func111, Tryz.ntmps111
    simp only [tyCells]
    go_wp2_with fail
    refine (own_c t _ B _ (HT.out.alloc hB _) (by simp; omega)).mono ?_
    rintro e w0 ⟨rfl, hb0⟩
    have hacc0 : Below w.heap.size w w0 := acc1 (Below.refl _ _) (Nat.le_refl _) hb0
    have HX0 := Lib.hid ((BoxAt.new _ _ _).under hb0)
    go_wp2
    go_loopw [3, 4] (fun m i wr => ∃ (k : Nat) (c : Bool), k ≤ t.subs.length ∧ i = .int .i64 k ∧ m = .bool c ∧ Below w.heap.size w wr ∧ BoxAt wr w.heap.size (tyCells t na nc sa sc) ∧ (c && allL (t.subs.drop k)) = allT t) (fun _ i _ => t.subs.length - (intOf i).toNat)
    case atStart => exact ⟨0, ownB t, Nat.zero_le _, rfl, rfl, hacc0, HX0.out, by rw [HE.out, own_shape]; rfl⟩
    case round =>
      clear HX0 hacc0 hb0
      obtain ⟨k, c, hk, rfl, rfl, hacc, hbx, heq⟩ := hrel
      have HQ := Lib.hid heq
      have HX := Lib.hid hbx
      obtain ⟨hx1, hx2⟩ := hbx
      unfold tyCells at hx2
      have hsz := hacc.size
      clear heq
      cases c
      · go_wp2
        go_ret
        have h := HQ.out
        rw [Bool.false_and] at h
        exact ⟨ret_b h, hacc⟩
      · by_cases hlt : k < t.subs.length
        · have hT := (HU.out k hlt).under (hacc.mono hB)
          obtain ⟨b, o, na', nc', sa', sc', rfl, hbb, hfk, c0, c1, c2, c3, c4, c5, c6⟩ := TyC.elem (HS.out.keep fun p hp => hacc.cell (p := p) (by omega)) hlt hT
          have HK := Lib.hid hfk
          have hdrop := Lib.hid (List.drop_eq_getElem_cons hlt)
          clear hfk
          go_wp2_with fail
          have hcall := HI.out t.subs[k] (List.getElem_mem hlt) _ B _ hT (Nat.le_trans hB hsz)
          rw [HK.out] at hcall
          refine hcall.mono ?_
          clear hcall
          rintro e w1 ⟨rfl, hb1⟩
          go_wp2
          refine ⟨⟨k + 1, _, by omega, by go_num, rfl, acc0 hacc hsz hb1, HX.out.under hb1, ?_⟩, by simp [intOf]; omega⟩
          have h := HQ.out
          rwa [hdrop.out, allL, Bool.true_and] at h
        · go_wp2
          go_ret
          have h := HQ.out
          rw [List.drop_of_length_le (by omega), allL] at h
          exact ⟨ret_b h, hacc⟩
theorem rMay_c (t : Ty) (cs : Array Value) (B : Nat) (w : World) (ht : TyC w B t cs) (hB : B ≤ w.heap.size) (hm : manyT t ≤ 1000000000) :
    Calls Tryz.prog 61 #[.agg cs] w fun e w' => e = .returned (.bool (mayT t)) ∧ Below w.heap.size w w' := by
  obtain ⟨na, nc, sa, sc, f, rfl, -⟩ := ht.inv
  have HT := Lib.hid ht
  have HM := Lib.hid (may_is t)
  clear ht
  go_enter Tryz.func61, Tryz.ntmps61
  simp only [tyCells]
  go_wp2_with fail
  refine (all_c t _ B _ (HT.out.alloc hB _) (by simp; omega)).mono ?_
  rintro e w1 ⟨rfl, hb1⟩
  have hacc : Below w.heap.size w w1 := acc1 (Below.refl _ _) (Nat.le_refl _) hb1
  have HX := Lib.hid ((BoxAt.new _ _ _).under hb1)
  have hx1 := HX.out.1
  have hx2 := HX.out.2
  cases h1 : allT t
  · go_wp2
    go_ret
    exact ⟨ret_b (by rw [HM.out, mayR, h1]; rfl), hacc⟩
  · go_wp2_with fail
    refine (many_c t _ B _ (HT.out.under (hacc.mono hB)) (Nat.le_trans hB hacc.size) hm).mono ?_
    rintro e w2 ⟨rfl, hb2⟩
    have hacc := acc0 hacc hacc.size hb2
    have hx3 := (HX.out.under hb2).1
    have hx4 := (HX.out.under hb2).2
    by_cases h2 : manyT t ≤ 500
    · go_wp2_with fail
      refine (deep_c t _ B _ (HT.out.under (hacc.mono hB)) (Nat.le_trans hB hacc.size) hm).mono ?_
      rintro e w3 ⟨rfl, hb3⟩
      go_wp2
      go_ret
      exact ⟨ret_b (by rw [HM.out, mayR, h1, decide_eq_true h2]; rfl), acc0 hacc hacc.size hb3⟩
    · go_wp2
      go_ret
      exact ⟨ret_b (by rw [HM.out, mayR, h1, decide_eq_false (show ¬ manyT t ≤ 500 by omega)]; rfl), hacc⟩
set_option maxHeartbeats 1000000 in
theorem rPlain_c (t : Ty) : ∀ (cs : Array Value) (B : Nat) (w : World), TyC w B t cs → B ≤ w.heap.size →
    Calls Tryz.prog 62 #[.agg cs] w fun e w' => e = .returned (.bool (plainT t)) ∧ Below w.heap.size w w' := by
  induction t using Ty.ind with
  | h t ih =>
    intro cs B w ht hB
    obtain ⟨na, nc, sa, sc, f, rfl, hf, hn, hs, hnc, hsc, hsub⟩ := ht.inv
    have HE := Lib.hid (plainT_eq t)
    have HI := Lib.hid ih
    have HS := Lib.hid hs
    have HU := Lib.hid hsub
    have hnm := hf.subs
    unfold maxLen at hnm
    clear ih hf hn hs hsub ht
    by_cases h8 : t.kind = 8
    · go_enter Tryz.func62, Tryz.ntmps62
      simp only [tyCells]
      go_wp2
      go_ret
      exact ⟨ret_b (by rw [HE.out, h8]; rfl), (Below.refl _ _).alloc (Nat.le_refl _) _⟩
    · have h8' : (t.kind == 8) = false := by simpa using h8
      have H8 := Lib.hid (show (t.kind != 8) = true by simpa using h8)
      clear h8
      go_enter Tryz.func62, Tryz.ntmps62
      simp only [tyCells]
      go_wp2
      go_loopw [3] (fun i wr => ∃ k : Nat, k ≤ t.subs.length ∧ i = .int .i64 k ∧ Below w.heap.size w wr ∧ BoxAt wr w.heap.size (tyCells t na nc sa sc) ∧ plainL (t.subs.drop k) = plainT t) (fun i _ => t.subs.length - (intOf i).toNat)
      case atStart => exact ⟨0, Nat.zero_le _, rfl, (Below.refl _ _).alloc (Nat.le_refl _) _, BoxAt.new _ _ _, by rw [HE.out, H8.out]; rfl⟩
      case round =>
        obtain ⟨k, hk, rfl, hacc, hbx, heq⟩ := hrel
        have HQ := Lib.hid heq
        have HX := Lib.hid hbx
        obtain ⟨hx1, hx2⟩ := hbx
        unfold tyCells at hx2
        have hsz := hacc.size
        clear heq
        by_cases hlt : k < t.subs.length
        · have hT := (HU.out k hlt).under (hacc.mono hB)
          obtain ⟨b, o, na', nc', sa', sc', rfl, hbb, hfk, c0, c1, c2, c3, c4, c5, c6⟩ := TyC.elem (HS.out.keep fun p hp => hacc.cell (p := p) (by omega)) hlt hT
          have HK := Lib.hid hfk
          have hdrop := Lib.hid (List.drop_eq_getElem_cons hlt)
          clear hfk
          go_wp2_with fail
          have hcall := HI.out t.subs[k] (List.getElem_mem hlt) _ B _ hT (Nat.le_trans hB hsz)
          rw [HK.out] at hcall
          refine hcall.mono ?_
          clear hcall
          rintro e w1 ⟨rfl, hb1⟩
          cases hp : plainT t.subs[k]
          · go_wp2
            go_ret
            have h := HQ.out
            rw [hdrop.out, plainL, hp, Bool.false_and] at h
            exact ⟨ret_b h, acc0 hacc hsz hb1⟩
          · go_wp2
            refine ⟨⟨k + 1, by omega, by go_num, acc0 hacc hsz hb1, HX.out.under hb1, ?_⟩, by simp [intOf]; omega⟩
            have h := HQ.out
            rwa [hdrop.out, plainL, hp, Bool.true_and] at h
        · go_wp2
          go_ret
          have h := HQ.out
          rw [List.drop_of_length_le (by omega), plainL] at h
          exact ⟨ret_b h, hacc⟩
end Go.Proofs.YtjeldfipipkfiaaGreat
