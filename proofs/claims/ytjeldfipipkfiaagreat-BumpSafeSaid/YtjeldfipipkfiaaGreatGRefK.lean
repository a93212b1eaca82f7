/- The contracts of merlonref04: few, Few, Many, Deep, Plain; no condition but those of Go's own values. -/
import Derived.Test.YtjeldfipipkfiaaGreatGKind
namespace Go.Proofs.YtjeldfipipkfiaaGreat
open Go.RowKit
mutual
def fewT : Ty → Int → Int
  | .mk _ _ _ _ _ ns ss, q => if q - 1 < 0 ∨ 200 < ns.length then -1 else fewL ss (q - 1)
def fewL : List Ty → Int → Int
  | [], q => q
  | s :: ss, q => if q < 0 then q else fewL ss (fewT s q)
end
theorem fewT_eq (t : Ty) (q : Int) : fewT t q = if q - 1 < 0 ∨ 200 < t.names.length then -1 else fewL t.subs (q - 1) := by cases t; rw [fewT]; rfl
theorem few_bound (t : Ty) : ∀ q : Int, 0 ≤ q → -1 ≤ fewT t q ∧ fewT t q ≤ q := by
  induction t using Ty.ind with
  | h t ih =>
    intro q hq
    rw [fewT_eq]
    split
    · omega
    · rename_i hc
      have key : ∀ (l : List Ty) (n : Int), (∀ s ∈ l, s ∈ t.subs) → -1 ≤ n → -1 ≤ fewL l n ∧ fewL l n ≤ n := by
        intro l
        induction l with
        | nil => intro n _ h1; rw [fewL]; omega
        | cons s l ihl =>
          intro n hm h1
          rw [fewL]
          split
          · omega
          · have := ih s (hm s (by simp)) n (by omega)
            have := ihl (fewT s n) (fun x hx => hm x (by simp [hx])) (by omega)
            omega
      have := key t.subs (q - 1) (fun _ h => h) (by omega)
      omega
theorem fewL_neg (l : List Ty) (q : Int) (h : q < 0) : fewL l q = q := by
  cases l with
  | nil => rw [fewL]
  | cons s l => rw [fewL, if_pos h]
set_option maxHeartbeats 1000000 in
theorem few_c (t : Ty) : ∀ (cs : Array Value) (q : Int) (B : Nat) (w : World), TyC w B t cs → B ≤ w.heap.size → 0 ≤ q → q ≤ 1000000 →
    Calls Tryz.prog 41 #[.agg cs, .int .i64 q] w fun e w' => e = .returned (.int .i64 (fewT t q)) ∧ Below w.heap.size w w' := by
  induction t using Ty.ind with
  | h t ih =>
    intro cs q B w ht hB hq1 hq2
    obtain ⟨na, nc, sa, sc, f, rfl, hf, hn, hs, hnc, hsc, hsub⟩ := ht.inv
    have HE := Lib.hid (fewT_eq t q)
    have HI := Lib.hid ih
    have HF := Lib.hid hf
    have HS := Lib.hid hs
    have HU := Lib.hid hsub
    clear ih hf hn hs hsub ht
    by_cases hz : q - 1 < 0
    · have HR := Lib.hid (show fewT t q = -1 by rw [HE.out, if_pos (.inl hz)])
      go_enter Tryz.func41, Tryz.ntmps41
      simp only [tyCells]
      go_wp2
      go_ret
      exact ⟨ret_i HR.out.symm, (Below.refl _ _).alloc (Nat.le_refl _) _⟩
    · by_cases hn2 : 200 < t.names.length
      · have HR := Lib.hid (show fewT t q = -1 by rw [HE.out, if_pos (.inr hn2)])
        go_enter Tryz.func41, Tryz.ntmps41
        simp only [tyCells]
        go_wp2
        go_ret
        exact ⟨ret_i HR.out.symm, (Below.refl _ _).alloc (Nat.le_refl _) _⟩
      · have HR := Lib.hid (show fewL t.subs (q - 1) = fewT t q by rw [HE.out, if_neg (by omega)])
        have hnm := HF.out.subs
        unfold maxLen at hnm
        go_enter Tryz.func41, Tryz.ntmps41
        simp only [tyCells]
        go_wp2
        go_loopw [1, 5] (fun m i wr => ∃ (k : Nat) (c : Int), k ≤ t.subs.length ∧ i = .int .i64 k ∧ m = .int .i64 c ∧ Below w.heap.size w wr ∧ BoxAt wr w.heap.size (tyCells t na nc sa sc) ∧ -1 ≤ c ∧ c ≤ 1000000 ∧ fewL (t.subs.drop k) c = fewT t q) (fun _ i _ => t.subs.length - (intOf i).toNat)
        case atStart => exact ⟨0, q - 1, Nat.zero_le _, rfl, rfl, (Below.refl _ _).alloc (Nat.le_refl _) _, BoxAt.new _ _ _, by omega, by omega, HR.out⟩
        case round =>
          obtain ⟨k, c, hk, rfl, rfl, hacc, hbx, hc1, hc2, heq⟩ := hrel
          have HQ := Lib.hid heq
          have HX := Lib.hid hbx
          obtain ⟨hx1, hx2⟩ := hbx
          unfold tyCells at hx2
          have hsz := hacc.size
          clear heq
          by_cases hlt : k < t.subs.length
          · by_cases hc : 0 ≤ c
            · have hT := (HU.out k hlt).under (hacc.mono hB)
              obtain ⟨b, o, na', nc', sa', sc', rfl, hbb, hfk, c0, c1, c2, c3, c4, c5, c6⟩ := TyC.elem (HS.out.keep fun p hp => hacc.cell (p := p) (by omega)) hlt hT
              have HK := Lib.hid hfk
              have hdrop := Lib.hid (List.drop_eq_getElem_cons hlt)
              have hbd := few_bound t.subs[k] c hc
              clear hfk
              go_wp2_with fail
              have hcall := HI.out t.subs[k] (List.getElem_mem hlt) _ c B _ hT (Nat.le_trans hB hsz) hc hc2
              rw [HK.out] at hcall
              refine hcall.mono ?_
              clear hcall
              rintro e w1 ⟨rfl, hb1⟩
              go_wp2
              refine ⟨⟨k + 1, _, by omega, by go_num, rfl, acc0 hacc hsz hb1, HX.out.under hb1, by omega, by omega, ?_⟩, by simp [intOf]; omega⟩
              have h := HQ.out
              rw [hdrop.out, fewL, if_neg (by omega)] at h
              exact h
            · go_wp2
              go_ret
              have h := HQ.out
              rw [fewL_neg _ _ (by omega)] at h
              exact ⟨ret_i h, hacc⟩
          · go_wp2
            go_ret
            have h := HQ.out
            rw [List.drop_of_length_le (by omega), fewL] at h
            exact ⟨ret_i h, hacc⟩
def FewB (t : Ty) : Bool := decide (0 ≤ fewT t 3000)
theorem Few_c (t : Ty) (cs : Array Value) (B : Nat) (w : World) (ht : TyC w B t cs) (hB : B ≤ w.heap.size) :
    Calls Tryz.prog 20 #[.agg cs] w fun e w' => e = .returned (.bool (FewB t)) ∧ Below w.heap.size w w' := by
  obtain ⟨na, nc, sa, sc, f, rfl, -⟩ := ht.inv
  have HT := Lib.hid ht
  clear ht
  go_enter Tryz.func20, Tryz.ntmps20
  simp only [tyCells]
  go_wp2_with fail
  refine (few_c t _ 3000 B _ (HT.out.alloc hB _) (by simp; omega) (by omega) (by omega)).mono ?_
  rintro e w1 ⟨rfl, hb⟩
  go_wp2
  go_ret
  exact ⟨rfl, acc1 (Below.refl _ _) (Nat.le_refl _) hb⟩
end Go.Proofs.YtjeldfipipkfiaaGreat
namespace Go.Proofs.YtjeldfipipkfiaaGreat
open Go.RowKit
mutual
def manyT : Ty → Int
  | .mk _ _ _ _ _ _ ss => 1 + manyL ss
def manyL : List Ty → Int
  | [] => 0
  | s :: ss => manyT s + manyL ss
end
mutual
def deepT : Ty → Int
  | .mk _ _ _ _ _ _ ss => deepL ss + 1
def deepL : List Ty → Int
  | [] => 0
  | s :: ss => max (deepT s) (deepL ss)
end
theorem manyT_eq (t : Ty) : manyT t = 1 + manyL t.subs := by cases t; rw [manyT]; rfl
theorem deepT_eq (t : Ty) : deepT t = deepL t.subs + 1 := by cases t; rw [deepT]; rfl
theorem many_pos (t : Ty) : 1 ≤ manyT t := by
  induction t using Ty.ind with
  | h t ih =>
    rw [manyT_eq]
    have key : ∀ l : List Ty, (∀ s ∈ l, s ∈ t.subs) → 0 ≤ manyL l := by
      intro l
      induction l with
      | nil => intro _; rw [manyL]; omega
      | cons s l ihl =>
        intro hm
        rw [manyL]
        have := ih s (hm s (by simp))
        have := ihl (fun x hx => hm x (by simp [hx]))
        omega
    have := key t.subs (fun _ h => h)
    omega
theorem manyL_pos : ∀ l : List Ty, 0 ≤ manyL l
  | [] => by rw [manyL]; omega
  | s :: l => by rw [manyL]; have := many_pos s; have := manyL_pos l; omega
theorem manyL_mem : ∀ {l : List Ty} {s : Ty}, s ∈ l → manyT s ≤ manyL l
  | x :: l, s, h => by
    rw [manyL]
    have := manyL_pos l
    have := many_pos x
    rcases List.mem_cons.1 h with rfl | h
    · omega
    · have := manyL_mem h; omega
theorem deep_bound (t : Ty) : 1 ≤ deepT t ∧ deepT t ≤ manyT t := by
  induction t using Ty.ind with
  | h t ih =>
    rw [manyT_eq, deepT_eq]
    have key : ∀ l : List Ty, (∀ s ∈ l, s ∈ t.subs) → 0 ≤ deepL l ∧ deepL l ≤ manyL l := by
      intro l
      induction l with
      | nil => intro _; rw [manyL, deepL]; omega
      | cons s l ihl =>
        intro hm
        rw [manyL, deepL]
        have := ih s (hm s (by simp))
        have := ihl (fun x hx => hm x (by simp [hx]))
        omega
    have := key t.subs (fun _ h => h)
    omega
theorem deepL_pos : ∀ l : List Ty, 0 ≤ deepL l
  | [] => by rw [deepL]; omega
  | s :: l => by rw [deepL]; have := deepL_pos l; omega
end Go.Proofs.YtjeldfipipkfiaaGreat
namespace Go.Proofs.YtjeldfipipkfiaaGreat
open Go.RowKit
set_option linter.unusedSimpArgs false
set_option linter.unusedVariables false
def pK (k : Int) (s : ByteArray) : Bool := (k != 5 || smallB s) && (k != 6 || greatB s)
def flatE (t : Ty) : Bool := t.pkg.toList.isEmpty && t.major == 0 && t.mod.toList.isEmpty && t.name.toList.isEmpty
def kindR (t : Ty) : Bool :=
  if t.kind = 1 ∨ t.kind = 2 ∨ t.kind = 3 then flatE t && ((t.subs.length : Int) == 0) && ((t.names.length : Int) == 0)
  else if t.kind = 4 then flatE t && ((t.subs.length : Int) == 1) && ((t.names.length : Int) == 0)
  else if t.kind = 5 then flatE t && ((t.subs.length : Int) == (t.names.length : Int))
  else if t.kind = 6 then flatE t && ((t.subs.length : Int) == (t.names.length : Int)) && decide ((0 : Int) < t.subs.length)
  else if t.kind = 7 then flatE t && decide ((0 : Int) < t.subs.length) && ((t.names.length : Int) == 0)
  else if t.kind = 8 then ((t.subs.length : Int) == 0) && ((t.names.length : Int) == 0) && t.pkg.toList.isEmpty && t.major == 0 && greatB t.name && (smallB t.mod || t.mod.toList.isEmpty)
  else if t.kind = 9 then ((t.subs.length : Int) == 0) && ((t.names.length : Int) == 0) && smallB t.pkg && smallB t.mod && greatB t.name && decide ((1 : Int) ≤ t.major) && decide (t.major ≤ 999999999)
  else false
def ownB (t : Ty) : Bool := decide ((t.subs.length : Int) ≤ 20) && namesB (pK t.kind) t.names && kindR t
end Go.Proofs.YtjeldfipipkfiaaGreat
namespace Go.Proofs.YtjeldfipipkfiaaGreat
open Go.RowKit
set_option linter.unusedSimpArgs false
set_option linter.unusedVariables false
theorem bare_8 (t : Ty) (h : t.kind = 8) : emptyB (bareT t) = (t.pkg.toList.isEmpty && t.major == 0) := by
  have e : (⟨#[]⟩ : ByteArray).toList.isEmpty = true := by rw [ByteArray.toList_eq]; rfl
  simp only [bareT, if_pos h, emptyB, Ty.pkg, Ty.major, Ty.mod, Ty.name, e, Bool.and_true]
theorem bare_9 (t : Ty) (h : t.kind = 9) : emptyB (bareT t) = true := by
  have e : (⟨#[]⟩ : ByteArray).toList.isEmpty = true := by rw [ByteArray.toList_eq]; rfl
  have h8 : ¬ t.kind = 8 := by omega
  simp only [bareT, if_neg h8, if_pos h, emptyB, Ty.pkg, Ty.major, Ty.mod, Ty.name, e, Bool.and_true]
  rfl
theorem bare_n (t : Ty) (h8 : ¬ t.kind = 8) (h9 : ¬ t.kind = 9) : emptyB (bareT t) = flatE t := by
  simp only [bareT, if_neg h8, if_neg h9]
  rfl
theorem own_shape (t : Ty) : ownB t = shapeB t := by
  have hnn : ∀ p, ((t.names.length : Int) == 0) = true → namesB p t.names = true := fun p h => by
    have : t.names.length = 0 := by simpa using h
    rw [List.length_eq_zero_iff.1 this]
    rfl
  simp only [ownB, shapeB, kindR, kindB]
  generalize hL : decide ((t.subs.length : Int) ≤ 20) = L
  by_cases h1 : t.kind = 1 ∨ t.kind = 2 ∨ t.kind = 3
  · rw [bare_n t (by omega) (by omega), if_pos h1, if_pos h1]
    cases hn : ((t.names.length : Int) == 0)
    · simp
    · rw [hnn _ hn]
      cases L <;> cases flatE t <;> simp
  · rw [if_neg h1, if_neg h1]
    by_cases h4 : t.kind = 4
    · rw [bare_n t (by omega) (by omega), if_pos h4, if_pos h4]
      cases hn : ((t.names.length : Int) == 0)
      · simp
      · rw [hnn _ hn]
        cases L <;> cases flatE t <;> simp
    · rw [if_neg h4, if_neg h4]
      by_cases h5 : t.kind = 5
      · have hp : pK t.kind = smallB := funext fun s => by rw [h5]; simp [pK]
        rw [bare_n t (by omega) (by omega), if_pos h5, if_pos h5, hp]
        cases L <;> cases flatE t <;> cases namesB smallB t.names <;> simp
      · rw [if_neg h5, if_neg h5]
        by_cases h6 : t.kind = 6
        · have hp : pK t.kind = greatB := funext fun s => by rw [h6]; simp [pK]
          have hd : decide ((0 : Int) < (t.subs.length : Int)) = decide ((1 : Int) ≤ (t.subs.length : Int)) := by rw [Bool.eq_iff_iff]; simp only [decide_eq_true_eq]; omega
          rw [bare_n t (by omega) (by omega), if_pos h6, if_pos h6, hp, hd]
          cases L <;> cases flatE t <;> cases namesB greatB t.names <;> cases decide ((1 : Int) ≤ (t.subs.length : Int)) <;> simp
        · rw [if_neg h6, if_neg h6]
          by_cases h7 : t.kind = 7
          · have hd : decide ((0 : Int) < (t.subs.length : Int)) = decide ((1 : Int) ≤ (t.subs.length : Int)) := by rw [Bool.eq_iff_iff]; simp only [decide_eq_true_eq]; omega
            rw [bare_n t (by omega) (by omega), if_pos h7, if_pos h7, hd]
            cases hn : ((t.names.length : Int) == 0)
            · simp
            · rw [hnn _ hn]
              cases L <;> cases flatE t <;> simp
          · rw [if_neg h7, if_neg h7]
            by_cases h8 : t.kind = 8
            · rw [bare_8 t h8, if_pos h8, if_pos h8]
              cases hn : ((t.names.length : Int) == 0)
              · simp
              · rw [hnn _ hn]
                cases L <;> cases ((t.subs.length : Int) == 0) <;> cases t.pkg.toList.isEmpty <;> cases (t.major == 0) <;> cases greatB t.name <;> cases smallB t.mod <;> cases t.mod.toList.isEmpty <;> rfl
            · rw [if_neg h8, if_neg h8]
              by_cases h9 : t.kind = 9
              · rw [bare_9 t h9]
                simp only [if_pos h9]
                cases hn : ((t.names.length : Int) == 0)
                · simp
                · rw [hnn _ hn]
                  cases L <;> simp
              · simp only [if_neg h9]
                simp
mutual
def allT : Ty → Bool
  | .mk k p m mo n ns ss => shapeB (.mk k p m mo n ns ss) && allL ss
def allL : List Ty → Bool
  | [] => true
  | s :: ss => allT s && allL ss
end
theorem allT_eq (t : Ty) : allT t = (shapeB t && allL t.subs) := by cases t; rw [allT]; rfl
theorem count_is (t : Ty) : ∀ d q : Int, countT t d q = if allT t = true ∧ deepT t ≤ d ∧ manyT t ≤ q then manyT t else 0 := by
  induction t using Ty.ind with
  | h t ih =>
    intro d q
    have hd := (deep_bound t).1
    have hm := many_pos t
    have hd0 := deepL_pos t.subs
    rw [countT_eq]
    by_cases h : d < 1 ∨ q < 1 ∨ shapeB t = false
    · rw [if_pos h, if_neg]
      rintro ⟨h1, h2, h3⟩
      rw [allT_eq, Bool.and_eq_true] at h1
      rcases h with h | h | h
      · omega
      · omega
      · rw [h] at h1; cases h1.1
    · rw [if_neg h]
      have key : ∀ (l : List Ty) (n : Int), (∀ s ∈ l, s ∈ t.subs) → 1 ≤ n → countL l d q n = if allL l = true ∧ deepL l ≤ d - 1 ∧ (l = [] ∨ n + manyL l ≤ q) then n + manyL l else 0 := by
        intro l
        induction l with
        | nil => intro n _ h1; rw [countL, allL, deepL, manyL, if_pos ⟨rfl, by omega, .inl rfl⟩]; omega
        | cons s l ihl =>
          intro n hmem h1
          have hs := ih s (hmem s (by simp)) (d - 1) (q - n)
          have hms := many_pos s
          have hml := manyL_pos l
          rw [countL, hs, allL, deepL, manyL]
          by_cases hc : allT s = true ∧ deepT s ≤ d - 1 ∧ manyT s ≤ q - n
          · rw [if_pos hc, if_neg (by omega), ihl (n + manyT s) (fun x hx => hmem x (by simp [hx])) (by omega), hc.1, Bool.true_and]
            by_cases hr : allL l = true ∧ deepL l ≤ d - 1 ∧ (l = [] ∨ n + manyT s + manyL l ≤ q)
            · rw [if_pos hr, if_pos]
              · omega
              · refine ⟨hr.1, by omega, .inr ?_⟩
                rcases hr.2.2 with h | h
                · subst h; rw [manyL]; omega
                · omega
            · rw [if_neg hr, if_neg]
              rintro ⟨e1, e2, e3⟩
              refine hr ⟨e1, by omega, .inr ?_⟩
              rcases e3 with h | h
              · cases h
              · omega
          · rw [if_neg hc, if_pos rfl, if_neg]
            rintro ⟨e1, e2, e3⟩
            rw [Bool.and_eq_true] at e1
            refine hc ⟨e1.1, by omega, ?_⟩
            rcases e3 with h | h
            · cases h
            · omega
      have hsh : shapeB t = true := by
        cases hx : shapeB t
        · exact absurd (.inr (.inr hx)) h
        · rfl
      rw [key t.subs 1 (fun _ h => h) (by omega), allT_eq, hsh, Bool.true_and, deepT_eq, manyT_eq]
      by_cases hr : allL t.subs = true ∧ deepL t.subs ≤ d - 1 ∧ (t.subs = [] ∨ 1 + manyL t.subs ≤ q)
      · rw [if_pos hr, if_pos]
        refine ⟨hr.1, by omega, ?_⟩
        rcases hr.2.2 with h' | h'
        · rw [h', manyL]; omega
        · omega
      · rw [if_neg hr, if_neg]
        rintro ⟨e1, e2, e3⟩
        exact hr ⟨e1, by omega, .inr e3⟩
def mayR (t : Ty) : Bool := allT t && decide (manyT t ≤ 500) && decide (deepT t ≤ 32)
theorem may_is (t : Ty) : mayT t = mayR t := by
  have := many_pos t
  rw [mayT, sizeT, count_is, mayR]
  by_cases h : allT t = true ∧ deepT t ≤ 32 ∧ manyT t ≤ 500
  · rw [if_pos h, h.1, decide_eq_true h.2.1, decide_eq_true h.2.2, decide_eq_true (by omega)]
    rfl
  · rw [if_neg h]
    have hz : decide ((0 : Int) < 0) = false := rfl
    rw [hz, eq_comm, Bool.and_assoc, Bool.and_eq_false_iff, Bool.and_eq_false_iff, decide_eq_false_iff_not, decide_eq_false_iff_not]
    by_cases h1 : allT t = true
    · by_cases h2 : manyT t ≤ 500
      · exact .inr (.inr fun h3 => h ⟨h1, h3, h2⟩)
      · exact .inr (.inl h2)
    · exact .inl (by simpa using h1)
end Go.Proofs.YtjeldfipipkfiaaGreat
