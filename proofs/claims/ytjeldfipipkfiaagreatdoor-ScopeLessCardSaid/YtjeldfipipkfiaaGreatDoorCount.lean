/- The contracts of kind.count, Size and May; no condition but those of Go's own values. -/
import Derived.Test.YtjeldfipipkfiaaGreatDoorKindB
namespace Go.Proofs.YtjeldfipipkfiaaGreatDoor
open Go.RowKit
mutual
def countT : Ty → Int → Int → Int
  | .mk k p m mo n ns ss, d, q => if d < 1 ∨ q < 1 ∨ shapeB (.mk k p m mo n ns ss) = false then 0 else countL ss d q 1
def countL : List Ty → Int → Int → Int → Int
  | [], _, _, n => n
  | s :: ss, d, q, n => if countT s (d - 1) (q - n) = 0 then 0 else countL ss d q (n + countT s (d - 1) (q - n))
end
theorem countT_eq (t : Ty) (d q : Int) : countT t d q = if d < 1 ∨ q < 1 ∨ shapeB t = false then 0 else countL t.subs d q 1 := by
  cases t; rw [countT]; rfl
theorem count_bound (t : Ty) : ∀ d q : Int, 0 ≤ countT t d q ∧ (countT t d q ≤ q ∨ countT t d q = 0) := by
  induction t using Ty.ind with
  | h t ih =>
    intro d q
    rw [countT_eq]
    split
    · omega
    · rename_i hc
      have key : ∀ (l : List Ty) (n : Int), (∀ s ∈ l, s ∈ t.subs) → 1 ≤ n → n ≤ q → 0 ≤ countL l d q n ∧ (countL l d q n ≤ q ∨ countL l d q n = 0) := by
        intro l
        induction l with
        | nil => intro n _ h1 h2; rw [countL]; omega
        | cons s l ihl =>
          intro n hm h1 h2
          rw [countL]
          split
          · omega
          · have := ih s (hm s (by simp)) (d - 1) (q - n)
            exact ihl _ (fun x hx => hm x (by simp [hx])) (by omega) (by omega)
      exact key t.subs 1 (fun _ h => h) (by omega) (by omega)
set_option maxHeartbeats 1000000 in
theorem count_c (t : Ty) : ∀ (cs : Array Value) (d q : Int) (B : Nat) (w : World), TyC w B t cs → B ≤ w.heap.size → -9223372036854775808 ≤ d → d ≤ 1000 → -9223372036854775808 ≤ q → q ≤ 1000000 →
    Calls Tryz.prog 168 #[.agg cs, .int .i64 d, .int .i64 q] w fun e w' => e = .returned (.int .i64 (countT t d q)) ∧ Below w.heap.size w w' := by
  induction t using Ty.ind with
  | h t ih =>
    intro cs d q B w ht hB hd1 hd2 hq1 hq2
    obtain ⟨na, nc, sa, sc, f, rfl, hf, hn, hs, hnc, hsc, hsub⟩ := ht.inv
    have HE := Lib.hid (countT_eq t d q)
    by_cases hd : d < 1
    · have HR := Lib.hid (show countT t d q = 0 by rw [HE.out, if_pos (.inl hd)])
      unfold tyCells
      go_enter Tryz.func168, Tryz.ntmps168
      go_wp2
      go_ret
      exact ⟨ret_i HR.out.symm, (Below.refl _ _).alloc (Nat.le_refl _) _⟩
    · by_cases hq : q < 1
      · have HR := Lib.hid (show countT t d q = 0 by rw [HE.out, if_pos (.inr (.inl hq))])
        unfold tyCells
        go_enter Tryz.func168, Tryz.ntmps168
        go_wp2
        go_ret
        exact ⟨ret_i HR.out.symm, (Below.refl _ _).alloc (Nat.le_refl _) _⟩
      · have HF := Lib.hid hf
        have HN := Lib.hid hn
        cases hsh : shapeB t
        · have HR := Lib.hid (show countT t d q = 0 by rw [HE.out, if_pos (.inr (.inr hsh))])
          unfold tyCells
          go_enter Tryz.func168, Tryz.ntmps168
          go_wp2_with (go_at_call 212; refine (shape_c t na nc sa sc B _ (by simp; omega) HF.out (HN.out.alloc hB _)).mono ?_; rintro e w1 ⟨rfl, hb⟩; obtain ⟨hcell, hlt, hacc⟩ := box_keep hb)
          go_ret
          exact ⟨ret_i HR.out.symm, hacc⟩
        · have HR := Lib.hid (show countL t.subs d q 1 = countT t d q by rw [HE.out, if_neg (by rw [hsh]; simp; omega)])
          unfold tyCells
          go_enter Tryz.func168, Tryz.ntmps168
          go_wp2_with (go_at_call 212; refine (shape_c t na nc sa sc B _ (by simp; omega) HF.out (HN.out.alloc hB _)).mono ?_; rintro e w1 ⟨rfl, hb⟩; obtain ⟨hcell, hlt, hacc⟩ := box_keep hb)
          clear hcell
          have HH := Lib.hid ih
          have HS := Lib.hid hs
          have HU := Lib.hid hsub
          clear ih hs hsub
          have hnm := HF.out.subs
          unfold maxLen at hnm
          go_loopw [7, 25] (fun n i wr => ∃ (k : Nat) (c : Int), k ≤ t.subs.length ∧ i = .int .i64 k ∧ n = .int .i64 c ∧ Below w.heap.size w wr ∧ 1 ≤ c ∧ c ≤ q ∧ countL (t.subs.drop k) d q c = countT t d q) (fun _ i _ => t.subs.length - (intOf i).toNat)
          case atStart => exact ⟨0, 1, Nat.zero_le _, rfl, rfl, hacc, by omega, by omega, HR.out⟩
          case round =>
            clear hacc
            obtain ⟨k, c, hk, rfl, rfl, hacc, hc1, hc2, hcl⟩ := hrel
            have HC := Lib.hid hcl
            clear hcl
            by_cases hlt : k < t.subs.length
            · have hTk := (HU.out k hlt).under (hacc.mono hB)
              obtain ⟨b, o, na', nc', sa', sc', rfl, hbb, hfk, c0, c1, c2, c3, c4, c5, c6⟩ := TyC.elem (HS.out.keep fun p hp => hacc.cell (p := p) (by omega)) hlt hTk
              have HK := Lib.hid hfk
              have hdrop := Lib.hid (List.drop_eq_getElem_cons hlt)
              have hbd := count_bound t.subs[k] (d - 1) (q - c)
              clear hfk
              by_cases hz : countT t.subs[k] (d - 1) (q - c) = 0
              · go_wp2_with fail
                have hT2 := hTk.alloc (Nat.le_trans hB hacc.size) (.cells (tyCells t.subs[k] na' nc' sa' sc') 29)
                rw [HK.out] at hT2
                refine (HH.out t.subs[k] (List.getElem_mem hlt) _ _ _ B _ hT2 (by have := hacc.size; simp; omega) (by omega) (by omega) (by omega) (by omega)).mono ?_
                rintro e w2 ⟨rfl, hb2⟩
                have hacc := acc1 hacc hacc.size hb2
                clear hT2
                go_wp2
                go_ret
                have h := HC.out
                rw [hdrop.out, countL, if_pos hz] at h
                exact ⟨ret_i h, hacc⟩
              · go_wp2_with fail
                have hT2 := hTk.alloc (Nat.le_trans hB hacc.size) (.cells (tyCells t.subs[k] na' nc' sa' sc') 29)
                rw [HK.out] at hT2
                refine (HH.out t.subs[k] (List.getElem_mem hlt) _ _ _ B _ hT2 (by have := hacc.size; simp; omega) (by omega) (by omega) (by omega) (by omega)).mono ?_
                rintro e w2 ⟨rfl, hb2⟩
                have hacc := acc1 hacc hacc.size hb2
                clear hT2
                go_wp2
                go_roundw
                case rel =>
                  have h := HC.out
                  rw [hdrop.out, countL, if_neg hz] at h
                  exact ⟨k + 1, c + countT t.subs[k] (d - 1) (q - c), by omega, by go_num, rfl, hacc, by omega, by omega, h⟩
                case measure => simp [intOf]; omega
            · go_wp2
              go_ret
              have e : k = t.subs.length := by omega
              subst e
              have h := HC.out
              rw [List.drop_length, countL] at h
              exact ⟨ret_i h, hacc⟩
def sizeT (t : Ty) : Int := countT t 32 500
def mayT (t : Ty) : Bool := decide (0 < sizeT t)
theorem Size_c (t : Ty) (cs : Array Value) (B : Nat) (w : World) (ht : TyC w B t cs) (hB : B ≤ w.heap.size) :
    Calls Tryz.prog 105 #[.agg cs] w fun e w' => e = .returned (.int .i64 (sizeT t)) ∧ Below w.heap.size w w' := by
  obtain ⟨na, nc, sa, sc, f, rfl, -⟩ := ht.inv
  have HT := Lib.hid ht
  clear ht
  unfold tyCells
  go_enter Tryz.func105, Tryz.ntmps105
  go_wp2_with fail
  refine (count_c t _ _ _ B _ (HT.out.alloc hB _) (by simp; omega) (by omega) (by omega) (by omega) (by omega)).mono ?_
  rintro e w1 ⟨rfl, hb⟩
  go_wp2
  go_ret
  exact ⟨rfl, acc1 (Below.refl _ _) (Nat.le_refl _) hb⟩
theorem May_c (t : Ty) (cs : Array Value) (B : Nat) (w : World) (ht : TyC w B t cs) (hB : B ≤ w.heap.size) :
    Calls Tryz.prog 53 #[.agg cs] w fun e w' => e = .returned (.bool (mayT t)) ∧ Below w.heap.size w w' := by
  obtain ⟨na, nc, sa, sc, f, rfl, -⟩ := ht.inv
  have HT := Lib.hid ht
  clear ht
  unfold tyCells
  go_enter Tryz.func53, Tryz.ntmps53
  go_wp2_with fail
  refine (Size_c t _ B _ (HT.out.alloc hB _) (by simp; omega)).mono ?_
  rintro e w1 ⟨rfl, hb⟩
  go_wp2
  go_ret
  exact ⟨rfl, acc1 (Below.refl _ _) (Nat.le_refl _) hb⟩
end Go.Proofs.YtjeldfipipkfiaaGreatDoor
