/- The contracts of merlonref04: few, Few, Many, Deep, Plain; no condition but those of Go's own values. -/
import Derived.Test.YtjeldfipipkfiaaGreatDoorPlain
namespace Go.Proofs.YtjeldfipipkfiaaGreatDoor
open Go.RowKit
mutual
def fewT : Ty → Int → Int
  | .mk _ _ _ _ _ ns ss, q => if q - 1 < 0 ∨ 200 < ns.length then -1 else fewL ss (q - 1)
def fewL : List Ty → Int → Int
  | [], q => q
  | s :: ss, q => if q < 0 then q else fewL ss (fewT s q)
end
theorem fewT_eq (t : Ty) (q : Int) : fewT t q = if q - 1 < 0 ∨ 200 < t.names.length then -1 else fewL t.subs (q - 1) := by cases t; rw [fewT]; rfl
theorem few_bound (t : Ty) : ∀ q : Int, 0 ≤ q → -1 ≤ fewT t q ∧ fewT t q ≤ q := by
  induction t using Ty.ind with
  | h t ih =>
    intro q hq
    rw [fewT_eq]
    split
    · omega
    · rename_i hc
      have key : ∀ (l : List Ty) (n : Int), (∀ s ∈ l, s ∈ t.subs) → -1 ≤ n → -1 ≤ fewL l n ∧ fewL l n ≤ n := by
        intro l
        induction l with
        | nil => intro n _ h1; rw [fewL]; omega
        | cons s l ihl =>
          intro n hm h1
          rw [fewL]
          split
          · omega
          · have := ih s (hm s (by simp)) n (by omega)
            have := ihl (fewT s n) (fun x hx => hm x (by simp [hx])) (by omega)
            omega
      have := key t.subs (q - 1) (fun _ h => h) (by omega)
      omega
theorem fewL_neg (l : List Ty) (q : Int) (h : q < 0) : fewL l q = q := by
  cases l with
  | nil => rw [fewL]
  | cons s l => rw [fewL, if_pos h]
set_option maxHeartbeats 1000000 in
theorem few_c (t : Ty) : ∀ (cs : Array Value) (q : Int) (B : Nat) (w : World), TyC w B t cs → B ≤ w.heap.size → 0 ≤ q → q ≤ 1000000 →
    Calls Tryz.prog 47 #[.agg cs, .int .i64 q] w fun e w' => e = .returned (.int .i64 (fewT t q)) ∧ Below w.heap.size w w' := by
  induction t using Ty.ind with
  | h t ih =>
    intro cs q B w ht hB hq1 hq2
    obtain ⟨na, nc, sa, sc, f, rfl, hf, hn, hs, hnc, hsc, hsub⟩ := ht.inv
    have HE := Lib.hid (fewT_eq t q)
    have HI := Lib.hid ih
    have HF := Lib.hid hf
    have HS := Lib.hid hs
    have HU := Lib.hid hsub
    clear ih hf hn hs hsub ht
    by_cases hz : q - 1 < 0
    · have HR := Lib.hid (show fewT t q = -1 by rw [HE.out, if_pos (.inl hz)])
      go_enter Tryz.func47, Tryz.ntmps47
      simp only [tyCells]
      go_wp2
      go_ret
      exact ⟨ret_i HR.out.symm, (Below.refl _ _).alloc (Nat.le_refl _) _⟩
    · by_cases hn2 : 200 < t.names.length
      · have HR := Lib.hid (show fewT t q = -1 by rw [HE.out, if_pos (.inr hn2)])
        go_enter Tryz.func47, Tryz.ntmps47
        simp only [tyCells]
        go_wp2
        go_ret
        exact ⟨ret_i HR.out.symm, (Below.refl _ _).alloc (Nat.le_refl _) _⟩
      · have HR := Lib.hid (show fewL t.subs (q - 1) = fewT t q by rw [HE.out, if_neg (by omega)])
        have hnm := HF.out.subs
        unfold maxLen at hnm
        go_enter Tryz.func47, Tryz.ntmps47
        simp only [tyCells]
        go_wp2
        go_loopw [1, 5] (fun m i wr => ∃ (k : Nat) (c : Int), k ≤ t.subs.length ∧ i = .int .i64 k ∧ m = .int .i64 c ∧ Below w.heap.size w wr ∧ BoxAt wr w.heap.size (tyCells t na nc sa sc) ∧ -1 ≤ c ∧ c ≤ 1000000 ∧ fewL (t.subs.drop k) c = fewT t q) (fun _ i _ => t.subs.length - (intOf i).toNat)
        case atStart => exact ⟨0, q - 1, Nat.zero_le _, rfl, rfl, (Below.refl _ _).alloc (Nat.le_refl _) _, BoxAt.new _ _ _, by omega, by omega, HR.out⟩
        case round =>
          obtain ⟨k, c, hk, rfl, rfl, hacc, hbx, hc1, hc2, heq⟩ := hrel
          have HQ := Lib.hid heq
          have HX := Lib.hid hbx
          obtain ⟨hx1, hx2⟩ := hbx
          unfold tyCells at hx2
          have hsz := hacc.size
          clear heq
          by_cases hlt : k < t.subs.length
          · by_cases hc : 0 ≤ c
            · have hT := (HU.out k hlt).under (hacc.mono hB)
              obtain ⟨b, o, na', nc', sa', sc', rfl, hbb, hfk, c0, c1, c2, c3, c4, c5, c6⟩ := TyC.elem (HS.out.keep fun p hp => hacc.cell (p := p) (by omega)) hlt hT
              have HK := Lib.hid hfk
              have hdrop := Lib.hid (List.drop_eq_getElem_cons hlt)
              have hbd := few_bound t.subs[k] c hc
              clear hfk
              go_wp2_with fail
              have hcall := HI.out t.subs[k] (List.getElem_mem hlt) _ c B _ hT (Nat.le_trans hB hsz) hc hc2
              rw [HK.out] at hcall
              refine hcall.mono ?_
              clear hcall
              rintro e w1 ⟨rfl, hb1⟩
              go_wp2
              refine ⟨⟨k + 1, _, by omega, by go_num, rfl, acc0 hacc hsz hb1, HX.out.under hb1, by omega, by omega, ?_⟩, by simp [intOf]; omega⟩
              have h := HQ.out
              rw [hdrop.out, fewL, if_neg (by omega)] at h
              exact h
            · go_wp2
              go_ret
              have h := HQ.out
              rw [fewL_neg _ _ (by omega)] at h
              exact ⟨ret_i h, hacc⟩
          · go_wp2
            go_ret
            have h := HQ.out
            rw [List.drop_of_length_le (by omega), fewL] at h
            exact ⟨ret_i h, hacc⟩
def FewB (t : Ty) : Bool := decide (0 ≤ fewT t 3000)
theorem Few_c (t : Ty) (cs : Array Value) (B : Nat) (w : World) (ht : TyC w B t cs) (hB : B ≤ w.heap.size) :
    Calls Tryz.prog 14 #[.agg cs] w fun e w' => e = .returned (.bool (FewB t)) ∧ Below w.heap.size w w' := by
  obtain ⟨na, nc, sa, sc, f, rfl, -⟩ := ht.inv
  have HT := Lib.hid ht
  clear ht
  go_enter Tryz.func14, Tryz.ntmps14
  simp only [tyCells]
  go_wp2_with fail
  refine (few_c t _ 3000 B _ (HT.out.alloc hB _) (by simp; omega) (by omega) (by omega)).mono ?_
  rintro e w1 ⟨rfl, hb⟩
  go_wp2
  go_ret
  exact ⟨rfl, acc1 (Below.refl _ _) (Nat.le_refl _) hb⟩
end Go.Proofs.YtjeldfipipkfiaaGreatDoor
