/- The reference's own fields and the program's shape say the same; the contracts of merlonref04.all, May and Plain. -/
import Derived.Test.YtjeldfipipkfiaaGreatDoorRefOwn
namespace Go.Proofs.YtjeldfipipkfiaaGreatDoor
open Go.RowKit
set_option linter.unusedSimpArgs false
set_option linter.unusedVariables false
theorem bare_8 (t : Ty) (h : t.kind = 8) : emptyB (bareT t) = (t.pkg.toList.isEmpty && t.major == 0) := by
  have e : (⟨#[]⟩ : ByteArray).toList.isEmpty = true := by rw [ByteArray.toList_eq]; rfl
  simp only [bareT, if_pos h, emptyB, Ty.pkg, Ty.major, Ty.mod, Ty.name, e, Bool.and_true]
theorem bare_9 (t : Ty) (h : t.kind = 9) : emptyB (bareT t) = true := by
  have e : (⟨#[]⟩ : ByteArray).toList.isEmpty = true := by rw [ByteArray.toList_eq]; rfl
  have h8 : ¬ t.kind = 8 := by omega
  simp only [bareT, if_neg h8, if_pos h, emptyB, Ty.pkg, Ty.major, Ty.mod, Ty.name, e, Bool.and_true]
  rfl
theorem bare_n (t : Ty) (h8 : ¬ t.kind = 8) (h9 : ¬ t.kind = 9) : emptyB (bareT t) = flatE t := by
  simp only [bareT, if_neg h8, if_neg h9]
  rfl
theorem namesB_nil (p : ByteArray → Bool) : namesB p [] = true := rfl
theorem own_shape (t : Ty) : ownB t = shapeB t := by
  have hnn : ∀ p, ((t.names.length : Int) == 0) = true → namesB p t.names = true := fun p h => by
    have : t.names.length = 0 := by simpa using h
    rw [List.length_eq_zero_iff.1 this]
    rfl
  simp only [ownB, shapeB, kindR, kindB]
  generalize hL : decide ((t.subs.length : Int) ≤ 20) = L
  by_cases h1 : t.kind = 1 ∨ t.kind = 2 ∨ t.kind = 3
  · rw [bare_n t (by omega) (by omega), if_pos h1, if_pos h1]
    cases hn : ((t.names.length : Int) == 0)
    · simp
    · rw [hnn _ hn]
      cases L <;> cases flatE t <;> simp
  · rw [if_neg h1, if_neg h1]
    by_cases h4 : t.kind = 4
    · rw [bare_n t (by omega) (by omega), if_pos h4, if_pos h4]
      cases hn : ((t.names.length : Int) == 0)
      · simp
      · rw [hnn _ hn]
        cases L <;> cases flatE t <;> simp
    · rw [if_neg h4, if_neg h4]
      by_cases h5 : t.kind = 5
      · have hp : pK t.kind = smallB := funext fun s => by rw [h5]; simp [pK]
        rw [bare_n t (by omega) (by omega), if_pos h5, if_pos h5, hp]
        cases L <;> cases flatE t <;> cases namesB smallB t.names <;> simp
      · rw [if_neg h5, if_neg h5]
        by_cases h6 : t.kind = 6
        · have hp : pK t.kind = greatB := funext fun s => by rw [h6]; simp [pK]
          have hd : decide ((0 : Int) < (t.subs.length : Int)) = decide ((1 : Int) ≤ (t.subs.length : Int)) := by rw [Bool.eq_iff_iff]; simp only [decide_eq_true_eq]; omega
          rw [bare_n t (by omega) (by omega), if_pos h6, if_pos h6, hp, hd]
          cases L <;> cases flatE t <;> cases namesB greatB t.names <;> cases decide ((1 : Int) ≤ (t.subs.length : Int)) <;> simp
        · rw [if_neg h6, if_neg h6]
          by_cases h7 : t.kind = 7
          · have hd : decide ((0 : Int) < (t.subs.length : Int)) = decide ((1 : Int) ≤ (t.subs.length : Int)) := by rw [Bool.eq_iff_iff]; simp only [decide_eq_true_eq]; omega
            rw [bare_n t (by omega) (by omega), if_pos h7, if_pos h7, hd]
            cases hn : ((t.names.length : Int) == 0)
            · simp
            · rw [hnn _ hn]
              cases L <;> cases flatE t <;> simp
          · rw [if_neg h7, if_neg h7]
            by_cases h8 : t.kind = 8
            · rw [bare_8 t h8, if_pos h8, if_pos h8]
              cases hn : ((t.names.length : Int) == 0)
              · simp
              · rw [hnn _ hn]
                cases L <;> cases ((t.subs.length : Int) == 0) <;> cases t.pkg.toList.isEmpty <;> cases (t.major == 0) <;> cases greatB t.name <;> cases smallB t.mod <;> cases t.mod.toList.isEmpty <;> rfl
            · rw [if_neg h8, if_neg h8]
              by_cases h9 : t.kind = 9
              · rw [bare_9 t h9]
                simp only [if_pos h9]
                cases hn : ((t.names.length : Int) == 0)
                · simp
                · rw [hnn _ hn]
                  cases L <;> simp
              · simp only [if_neg h9]
                simp
mutual
def allT : Ty → Bool
  | .mk k p m mo n ns ss => shapeB (.mk k p m mo n ns ss) && allL ss
def allL : List Ty → Bool
  | [] => true
  | s :: ss => allT s && allL ss
end
theorem allT_eq (t : Ty) : allT t = (shapeB t && allL t.subs) := by cases t; rw [allT]; rfl
theorem count_is (t : Ty) : ∀ d q : Int, countT t d q = if allT t = true ∧ deepT t ≤ d ∧ manyT t ≤ q then manyT t else 0 := by
  induction t using Ty.ind with
  | h t ih =>
    intro d q
    have hd := (deep_bound t).1
    have hm := many_pos t
    have hd0 := deepL_pos t.subs
    rw [countT_eq]
    by_cases h : d < 1 ∨ q < 1 ∨ shapeB t = false
    · rw [if_pos h, if_neg]
      rintro ⟨h1, h2, h3⟩
      rw [allT_eq, Bool.and_eq_true] at h1
      rcases h with h | h | h
      · omega
      · omega
      · rw [h] at h1; cases h1.1
    · rw [if_neg h]
      have key : ∀ (l : List Ty) (n : Int), (∀ s ∈ l, s ∈ t.subs) → 1 ≤ n → countL l d q n = if allL l = true ∧ deepL l ≤ d - 1 ∧ (l = [] ∨ n + manyL l ≤ q) then n + manyL l else 0 := by
        intro l
        induction l with
        | nil => intro n _ h1; rw [countL, allL, deepL, manyL, if_pos ⟨rfl, by omega, .inl rfl⟩]; omega
        | cons s l ihl =>
          intro n hmem h1
          have hs := ih s (hmem s (by simp)) (d - 1) (q - n)
          have hms := many_pos s
          have hml := manyL_pos l
          rw [countL, hs, allL, deepL, manyL]
          by_cases hc : allT s = true ∧ deepT s ≤ d - 1 ∧ manyT s ≤ q - n
          · rw [if_pos hc, if_neg (by omega), ihl (n + manyT s) (fun x hx => hmem x (by simp [hx])) (by omega), hc.1, Bool.true_and]
            by_cases hr : allL l = true ∧ deepL l ≤ d - 1 ∧ (l = [] ∨ n + manyT s + manyL l ≤ q)
            · rw [if_pos hr, if_pos]
              · omega
              · refine ⟨hr.1, by omega, .inr ?_⟩
                rcases hr.2.2 with h | h
                · subst h; rw [manyL]; omega
                · omega
            · rw [if_neg hr, if_neg]
              rintro ⟨e1, e2, e3⟩
              refine hr ⟨e1, by omega, .inr ?_⟩
              rcases e3 with h | h
              · cases h
              · omega
          · rw [if_neg hc, if_pos rfl, if_neg]
            rintro ⟨e1, e2, e3⟩
            rw [Bool.and_eq_true] at e1
            refine hc ⟨e1.1, by omega, ?_⟩
            rcases e3 with h | h
            · cases h
            · omega
      have hsh : shapeB t = true := by
        cases hx : shapeB t
        · exact absurd (.inr (.inr hx)) h
        · rfl
      rw [key t.subs 1 (fun _ h => h) (by omega), allT_eq, hsh, Bool.true_and, deepT_eq, manyT_eq]
      by_cases hr : allL t.subs = true ∧ deepL t.subs ≤ d - 1 ∧ (t.subs = [] ∨ 1 + manyL t.subs ≤ q)
      · rw [if_pos hr, if_pos]
        refine ⟨hr.1, by omega, ?_⟩
        rcases hr.2.2 with h' | h'
        · rw [h', manyL]; omega
        · omega
      · rw [if_neg hr, if_neg]
        rintro ⟨e1, e2, e3⟩
        exact hr ⟨e1, by omega, .inr e3⟩
def mayR (t : Ty) : Bool := allT t && decide (manyT t ≤ 500) && decide (deepT t ≤ 32)
theorem may_is (t : Ty) : mayT t = mayR t := by
  have := many_pos t
  rw [mayT, sizeT, count_is, mayR]
  by_cases h : allT t = true ∧ deepT t ≤ 32 ∧ manyT t ≤ 500
  · rw [if_pos h, h.1, decide_eq_true h.2.1, decide_eq_true h.2.2, decide_eq_true (by omega)]
    rfl
  · rw [if_neg h]
    have hz : decide ((0 : Int) < 0) = false := rfl
    rw [hz, eq_comm, Bool.and_assoc, Bool.and_eq_false_iff, Bool.and_eq_false_iff, decide_eq_false_iff_not, decide_eq_false_iff_not]
    by_cases h1 : allT t = true
    · by_cases h2 : manyT t ≤ 500
      · exact .inr (.inr fun h3 => h ⟨h1, h3, h2⟩)
      · exact .inr (.inl h2)
    · exact .inl (by simpa using h1)
theorem size_is (t : Ty) : sizeT t = if mayR t = true then manyT t else 0 := by
  rw [sizeT, count_is]
  simp only [mayR, Bool.and_eq_true, decide_eq_true_eq]
  by_cases h : allT t = true ∧ deepT t ≤ 32 ∧ manyT t ≤ 500
  · rw [if_pos h, if_pos ⟨⟨h.1, h.2.2⟩, h.2.1⟩]
  · rw [if_neg h, if_neg fun e => h ⟨e.1.1, e.2, e.1.2⟩]
/-- what is small enough to be gone through has few types -/
theorem few_is (t : Ty) : ∀ q : Int, 0 ≤ q → 0 ≤ fewT t q → fewT t q = q - manyT t := by
  induction t using Ty.ind with
  | h t ih =>
    intro q hq h
    rw [fewT_eq] at h ⊢
    split at h
    · omega
    · rename_i hc
      rw [if_neg hc]
      have key : ∀ (l : List Ty) (n : Int), (∀ s ∈ l, s ∈ t.subs) → 0 ≤ fewL l n → fewL l n = n - manyL l := by
        intro l
        induction l with
        | nil => intro n _ _; rw [fewL, manyL]; omega
        | cons s l ihl =>
          intro n hm h1
          rw [fewL] at h1 ⊢
          split at h1
          · omega
          · rename_i hn
            rw [if_neg hn, manyL]
            have hfs : 0 ≤ fewT s n := by
              cases l with
              | nil => rwa [fewL] at h1
              | cons y l =>
                rw [fewL] at h1
                split at h1 <;> omega
            have e1 := ih s (hm s (by simp)) n (by omega) hfs
            have e2 := ihl (fewT s n) (fun x hx => hm x (by simp [hx])) h1
            omega
      have := key t.subs (q - 1) (fun _ h => h) h
      rw [manyT_eq]
      omega
theorem few_many (t : Ty) (h : FewB t = true) : manyT t ≤ 3000 := by
  have h0 : 0 ≤ fewT t 3000 := by simpa [FewB] using h
  have := few_is t 3000 (by omega) h0
  omega
set_option maxHeartbeats 1000000 in
theorem all_c (t : Ty) : ∀ (cs : Array Value) (B : Nat) (w : World), TyC w B t cs → B ≤ w.heap.size →
    Calls Tryz.prog 59 #[.agg cs] w fun e w' => e = .returned (.bool (allT t)) ∧ Below w.heap.size w w' := by
  induction t using Ty.ind with
  | h t ih =>
    intro cs B w ht hB
    have ht0 := ht
    obtain ⟨na, nc, sa, sc, f, rfl, hf, hn, hs, hnc, hsc, hsub⟩ := ht.inv
    have HT := Lib.hid ht0
    have HE := Lib.hid (allT_eq t)
    have HI := Lib.hid ih
    have HS := Lib.hid hs
    have HU := Lib.hid hsub
    have hnm := hf.subs
    unfold maxLen at hnm
    clear ih hf hn hs hsub ht ht0
    go_enter Tryz.func59, Tryz.ntmps59
    simp only [tyCells]
    go_wp2_with fail
    refine (own_c t _ B _ (HT.out.alloc hB _) (by simp; omega)).mono ?_
    rintro e w0 ⟨rfl, hb0⟩
    have hacc0 : Below w.heap.size w w0 := acc1 (Below.refl _ _) (Nat.le_refl _) hb0
    have HX0 := Lib.hid ((BoxAt.new _ _ _).under hb0)
    go_wp2
    go_loopw [3, 4] (fun m i wr => ∃ (k : Nat) (c : Bool), k ≤ t.subs.length ∧ i = .int .i64 k ∧ m = .bool c ∧ Below w.heap.size w wr ∧ BoxAt wr w.heap.size (tyCells t na nc sa sc) ∧ (c && allL (t.subs.drop k)) = allT t) (fun _ i _ => t.subs.length - (intOf i).toNat)
    case atStart => exact ⟨0, ownB t, Nat.zero_le _, rfl, rfl, hacc0, HX0.out, by rw [HE.out, own_shape]; rfl⟩
    case round =>
      clear HX0 hacc0 hb0
      obtain ⟨k, c, hk, rfl, rfl, hacc, hbx, heq⟩ := hrel
      have HQ := Lib.hid heq
      have HX := Lib.hid hbx
      obtain ⟨hx1, hx2⟩ := hbx
      unfold tyCells at hx2
      have hsz := hacc.size
      clear heq
      cases c
      · go_wp2
        go_ret
        have h := HQ.out
        rw [Bool.false_and] at h
        exact ⟨ret_b h, hacc⟩
      · by_cases hlt : k < t.subs.length
        · have hT := (HU.out k hlt).under (hacc.mono hB)
          obtain ⟨b, o, na', nc', sa', sc', rfl, hbb, hfk, c0, c1, c2, c3, c4, c5, c6⟩ := TyC.elem (HS.out.keep fun p hp => hacc.cell (p := p) (by omega)) hlt hT
          have HK := Lib.hid hfk
          have hdrop := Lib.hid (List.drop_eq_getElem_cons hlt)
          clear hfk
          go_wp2_with fail
          have hcall := HI.out t.subs[k] (List.getElem_mem hlt) _ B _ hT (Nat.le_trans hB hsz)
          rw [HK.out] at hcall
          refine hcall.mono ?_
          clear hcall
          rintro e w1 ⟨rfl, hb1⟩
          go_wp2
          refine ⟨⟨k + 1, _, by omega, by go_num, rfl, acc0 hacc hsz hb1, HX.out.under hb1, ?_⟩, by simp [intOf]; omega⟩
          have h := HQ.out
          rwa [hdrop.out, allL, Bool.true_and] at h
        · go_wp2
          go_ret
          have h := HQ.out
          rw [List.drop_of_length_le (by omega), allL] at h
          exact ⟨ret_b h, hacc⟩
theorem rMay_c (t : Ty) (cs : Array Value) (B : Nat) (w : World) (ht : TyC w B t cs) (hB : B ≤ w.heap.size) (hm : manyT t ≤ 1000000000) :
    Calls Tryz.prog 20 #[.agg cs] w fun e w' => e = .returned (.bool (mayT t)) ∧ Below w.heap.size w w' := by
  obtain ⟨na, nc, sa, sc, f, rfl, -⟩ := ht.inv
  have HT := Lib.hid ht
  have HM := Lib.hid (may_is t)
  clear ht
  go_enter Tryz.func20, Tryz.ntmps20
  simp only [tyCells]
  go_wp2_with fail
  refine (all_c t _ B _ (HT.out.alloc hB _) (by simp; omega)).mono ?_
  rintro e w1 ⟨rfl, hb1⟩
  have hacc : Below w.heap.size w w1 := acc1 (Below.refl _ _) (Nat.le_refl _) hb1
  have HX := Lib.hid ((BoxAt.new _ _ _).under hb1)
  have hx1 := HX.out.1
  have hx2 := HX.out.2
  cases h1 : allT t
  · go_wp2
    go_ret
    exact ⟨ret_b (by rw [HM.out, mayR, h1]; rfl), hacc⟩
  · go_wp2_with fail
    refine (many_c t _ B _ (HT.out.under (hacc.mono hB)) (Nat.le_trans hB hacc.size) hm).mono ?_
    rintro e w2 ⟨rfl, hb2⟩
    have hacc := acc0 hacc hacc.size hb2
    have hx3 := (HX.out.under hb2).1
    have hx4 := (HX.out.under hb2).2
    by_cases h2 : manyT t ≤ 500
    · go_wp2_with fail
      refine (deep_c t _ B _ (HT.out.under (hacc.mono hB)) (Nat.le_trans hB hacc.size) hm).mono ?_
      rintro e w3 ⟨rfl, hb3⟩
      go_wp2
      go_ret
      exact ⟨ret_b (by rw [HM.out, mayR, h1, decide_eq_true h2]; rfl), acc0 hacc hacc.size hb3⟩
    · go_wp2
      go_ret
      exact ⟨ret_b (by rw [HM.out, mayR, h1, decide_eq_false (show ¬ manyT t ≤ 500 by omega)]; rfl), hacc⟩
set_option maxHeartbeats 1000000 in
theorem rPlain_c (t : Ty) : ∀ (cs : Array Value) (B : Nat) (w : World), TyC w B t cs → B ≤ w.heap.size →
    Calls Tryz.prog 192 #[.agg cs] w fun e w' => e = .returned (.bool (plainT t)) ∧ Below w.heap.size w w' := by
  induction t using Ty.ind with
  | h t ih =>
    intro cs B w ht hB
    obtain ⟨na, nc, sa, sc, f, rfl, hf, hn, hs, hnc, hsc, hsub⟩ := ht.inv
    have HE := Lib.hid (plainT_eq t)
    have HI := Lib.hid ih
    have HS := Lib.hid hs
    have HU := Lib.hid hsub
    have hnm := hf.subs
    unfold maxLen at hnm
    clear ih hf hn hs hsub ht
    by_cases h8 : t.kind = 8
    · go_enter Tryz.func192, Tryz.ntmps192
      simp only [tyCells]
      go_wp2
      go_ret
      exact ⟨ret_b (by rw [HE.out, h8]; rfl), (Below.refl _ _).alloc (Nat.le_refl _) _⟩
    · have h8' : (t.kind == 8) = false := by simpa using h8
      have H8 := Lib.hid (show (t.kind != 8) = true by simpa using h8)
      clear h8
      go_enter Tryz.func192, Tryz.ntmps192
      simp only [tyCells]
      go_wp2
      go_loopw [3] (fun i wr => ∃ k : Nat, k ≤ t.subs.length ∧ i = .int .i64 k ∧ Below w.heap.size w wr ∧ BoxAt wr w.heap.size (tyCells t na nc sa sc) ∧ plainL (t.subs.drop k) = plainT t) (fun i _ => t.subs.length - (intOf i).toNat)
      case atStart => exact ⟨0, Nat.zero_le _, rfl, (Below.refl _ _).alloc (Nat.le_refl _) _, BoxAt.new _ _ _, by rw [HE.out, H8.out]; rfl⟩
      case round =>
        obtain ⟨k, hk, rfl, hacc, hbx, heq⟩ := hrel
        have HQ := Lib.hid heq
        have HX := Lib.hid hbx
        obtain ⟨hx1, hx2⟩ := hbx
        unfold tyCells at hx2
        have hsz := hacc.size
        clear heq
        by_cases hlt : k < t.subs.length
        · have hT := (HU.out k hlt).under (hacc.mono hB)
          obtain ⟨b, o, na', nc', sa', sc', rfl, hbb, hfk, c0, c1, c2, c3, c4, c5, c6⟩ := TyC.elem (HS.out.keep fun p hp => hacc.cell (p := p) (by omega)) hlt hT
          have HK := Lib.hid hfk
          have hdrop := Lib.hid (List.drop_eq_getElem_cons hlt)
          clear hfk
          go_wp2_with fail
          have hcall := HI.out t.subs[k] (List.getElem_mem hlt) _ B _ hT (Nat.le_trans hB hsz)
          rw [HK.out] at hcall
          refine hcall.mono ?_
          clear hcall
          rintro e w1 ⟨rfl, hb1⟩
          cases hp : plainT t.subs[k]
          · go_wp2
            go_ret
            have h := HQ.out
            rw [hdrop.out, plainL, hp, Bool.false_and] at h
            exact ⟨ret_b h, acc0 hacc hsz hb1⟩
          · go_wp2
            refine ⟨⟨k + 1, by omega, by go_num, acc0 hacc hsz hb1, HX.out.under hb1, ?_⟩, by simp [intOf]; omega⟩
            have h := HQ.out
            rwa [hdrop.out, plainL, hp, Bool.true_and] at h
        · go_wp2
          go_ret
          have h := HQ.out
          rw [List.drop_of_length_le (by omega), plainL] at h
          exact ⟨ret_b h, hacc⟩
end Go.Proofs.YtjeldfipipkfiaaGreatDoor
