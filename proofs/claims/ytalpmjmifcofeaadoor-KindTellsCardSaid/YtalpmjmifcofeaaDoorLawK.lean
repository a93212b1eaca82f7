/- merlonlaw04.KindTells returns true; the premise: strconv's table is as laid. -/
import Derived.Test.YtalpmjmifcofeaaDoorUpK
import Derived.Test.YtalpmjmifcofeaaDoorRTextC
import Derived.Deep.RegionHeld3
namespace Go.Proofs.YtalpmjmifcofeaaDoor
open Go.RowKit
set_option linter.unusedSimpArgs false
set_option linter.unusedVariables false
theorem keep7b {W w' : World} {b : Nat} {T : TypeId} {v0 v1 v2 v3 v4 v5 v6 : Value} (h : Blk W b #[v0, v1, v2, v3, v4, v5, v6] T) (hb : Below W.heap.size W w') :
    w'.cell? ⟨b, 0, none⟩ = some v0 ∧ w'.cell? ⟨b, 1, none⟩ = some v1 ∧ w'.cell? ⟨b, 2, none⟩ = some v2 ∧ w'.cell? ⟨b, 3, none⟩ = some v3 ∧ w'.cell? ⟨b, 4, none⟩ = some v4 ∧ w'.cell? ⟨b, 5, none⟩ = some v5 ∧ w'.cell? ⟨b, 6, none⟩ = some v6 ∧ Below W.heap.size W w' := by
  obtain ⟨a0, a1, a2, a3, a4, a5, a6⟩ := cells7 (h.under hb h.lt)
  exact ⟨a0, a1, a2, a3, a4, a5, a6, hb⟩
set_option maxRecDepth 100000 in
set_option maxHeartbeats 8000000 in
theorem tells_c (t : Ty) (cs : Array Value) (B : Nat) (w : World) (ht : TyC w B t cs) (hB : B ≤ w.heap.size) (htab : TabW w) :
    Calls Tryd.prog 3 #[.agg cs] w fun e w' => e = .returned (.bool true) ∧ Below w.heap.size w w' := by
  obtain ⟨na, nc, sa, sc, f, rfl, -⟩ := ht.inv
  have HT0 := Lib.hid ht
  have HTB0 := Lib.hid htab
  clear ht htab
  go_enter Tryd.func3, Tryd.ntmps3
  simp only [tyCells]
  go_wp2_with fail
  have x0 := Blk.new w #[.int .i64 t.kind, .string t.pkg, .int .i64 t.major, .string t.mod, .string t.name, .slice na t.names.length nc, .slice sa t.subs.length sc] 25
  have xb : Below w.heap.size w (w.alloc (.cells #[.int .i64 t.kind, .string t.pkg, .int .i64 t.major, .string t.mod, .string t.name, .slice na t.names.length nc, .slice sa t.subs.length sc] 25)) := (Below.refl _ w).alloc (Nat.le_refl _) _
  have hT := (HT0.out.under (xb.mono hB)).mono (show B ≤ (w.alloc (.cells #[.int .i64 t.kind, .string t.pkg, .int .i64 t.major, .string t.mod, .string t.name, .slice na t.names.length nc, .slice sa t.subs.length sc] 25)).heap.size from Nat.le_trans hB xb.size)
  have htb := HTB0.out.below xb
  simp only [tyCells] at hT
  generalize (w.alloc (.cells #[.int .i64 t.kind, .string t.pkg, .int .i64 t.major, .string t.mod, .string t.name, .slice na t.names.length nc, .slice sa t.subs.length sc] 25)) = W at x0 xb hT htb ⊢
  have BX := Lib.hid x0
  have XB := Lib.hid xb
  have HT := Lib.hid hT
  have HTB := Lib.hid htb
  clear x0 xb hT htb HT0 HTB0
  have A0 := Lib.hid (Below.refl W.heap.size W)
  refine (up_c W HTB.out).mono ?_
  rintro e w1 ⟨rfl, hb⟩
  have A1 := Lib.hid hb
  clear hb
  obtain ⟨a0, a1, a2, a3, a4, a5, a6⟩ := cells7 (BX.out.under A1.out BX.out.lt)
  have lx := (BX.out.under A1.out BX.out.lt).lt
  go_wp2_with fail
  refine (Few_c t _ W.heap.size w1 (HT.out.under A1.out) A1.out.size).mono ?_
  rintro e w2 ⟨rfl, hb⟩
  clear a0 a1 a2 a3 a4 a5 a6 lx
  have A2 := Lib.hid (A1.out.trans (hb.mono A1.out.size))
  clear hb
  obtain ⟨a0, a1, a2, a3, a4, a5, a6⟩ := cells7 (BX.out.under A2.out BX.out.lt)
  have lx := (BX.out.under A2.out BX.out.lt).lt
  cases hf : FewB t
  · go_wp2_with fail
    go_ret
    exact ⟨rfl, acc0 XB.out XB.out.size A2.out⟩
  have hm9 : manyT t ≤ 1000000000 := by have := few_many t hf; omega
  have HM9 := Lib.hid hm9
  clear hm9 hf
  go_wp2_with fail
  refine (rMay_c t _ W.heap.size w2 (HT.out.under A2.out) A2.out.size HM9.out).mono ?_
  rintro e w3 ⟨rfl, hb⟩
  clear a0 a1 a2 a3 a4 a5 a6 lx
  have A3 := Lib.hid (A2.out.trans (hb.mono A2.out.size))
  clear hb
  obtain ⟨a0, a1, a2, a3, a4, a5, a6⟩ := cells7 (BX.out.under A3.out BX.out.lt)
  have lx := (BX.out.under A3.out BX.out.lt).lt
  go_wp2_with fail
  refine (print_c t _ W.heap.size w3 (HT.out.under A3.out) A3.out.size (HTB.out.below A3.out)).mono ?_
  rintro e w4 ⟨rfl, hb⟩
  clear a0 a1 a2 a3 a4 a5 a6 lx
  have A4 := Lib.hid (A3.out.trans (hb.mono A3.out.size))
  clear hb
  obtain ⟨a0, a1, a2, a3, a4, a5, a6⟩ := cells7 (BX.out.under A4.out BX.out.lt)
  have lx := (BX.out.under A4.out BX.out.lt).lt
  cases hm : mayT t
  · rw [show printE t = .iface 33 (.int .i64 1) from by rw [printE, hm]; rfl, show printS t = { data := #[] } from by rw [printS, hm]; rfl]
    have HM := Lib.hid hm
    clear hm
    go_wp2_with fail
    refine (May_c t _ W.heap.size w4 (HT.out.under A4.out) A4.out.size).mono ?_
    rintro e w5 ⟨rfl, hb⟩
    clear a0 a1 a2 a3 a4 a5 a6 lx
    have A5 := Lib.hid (A4.out.trans (hb.mono A4.out.size))
    clear hb
    rw [HM.out]
    obtain ⟨a0, a1, a2, a3, a4, a5, a6⟩ := cells7 (BX.out.under A5.out BX.out.lt)
    have lx := (BX.out.under A5.out BX.out.lt).lt
    go_wp2_with fail
    refine (Size_c t _ W.heap.size w5 (HT.out.under A5.out) A5.out.size).mono ?_
    rintro e w6 ⟨rfl, hb⟩
    clear a0 a1 a2 a3 a4 a5 a6 lx
    have A6 := Lib.hid (A5.out.trans (hb.mono A5.out.size))
    clear hb
    rw [show sizeT t = 0 from by rw [size_is, ← may_is, HM.out]; rfl]
    obtain ⟨a0, a1, a2, a3, a4, a5, a6⟩ := cells7 (BX.out.under A6.out BX.out.lt)
    have lx := (BX.out.under A6.out BX.out.lt).lt
    go_wp2_with fail
    refine (Plain_c t _ W.heap.size w6 (HT.out.under A6.out) A6.out.size).mono ?_
    rintro e w7 ⟨rfl, hb⟩
    clear a0 a1 a2 a3 a4 a5 a6 lx
    have A7 := Lib.hid (A6.out.trans (hb.mono A6.out.size))
    clear hb
    rw [show PlainB t = false from by rw [PlainB, HM.out]; rfl]
    obtain ⟨a0, a1, a2, a3, a4, a5, a6⟩ := cells7 (BX.out.under A7.out BX.out.lt)
    have lx := (BX.out.under A7.out BX.out.lt).lt
    have he := eq_err w7
    go_wp2_with fail
    go_ret
    exact ⟨rfl, acc0 XB.out XB.out.size A7.out⟩
  rw [show printE t = .nilIface from by rw [printE, hm]; rfl, show printS t = ba (tx t) from by rw [printS, hm]; rfl]
  have HM := Lib.hid hm
  have HMY := Lib.hid (fun (w : World) (cs : Array Value) (ht : TyC w W.heap.size t cs) (hB : W.heap.size ≤ w.heap.size) => (show Calls Tryd.prog 10 #[.agg cs] w fun e w' => e = .returned (.bool true) ∧ Below w.heap.size w w' from by have h := May_c t cs W.heap.size w ht hB; rw [hm] at h; exact h))
  have HSZ := Lib.hid (fun (w : World) (cs : Array Value) (ht : TyC w W.heap.size t cs) (hB : W.heap.size ≤ w.heap.size) => (show Calls Tryd.prog 11 #[.agg cs] w fun e w' => e = .returned (.int .i64 (manyT t)) ∧ Below w.heap.size w w' from by have h := Size_c t cs W.heap.size w ht hB; rw [size_is, if_pos (by rw [← may_is]; exact hm)] at h; exact h))
  obtain ⟨pl, hpl⟩ : ∃ v, plainT t = v := ⟨_, rfl⟩
  have HPL := Lib.hid (fun (w : World) (cs : Array Value) (ht : TyC w W.heap.size t cs) (hB : W.heap.size ≤ w.heap.size) => (show Calls Tryd.prog 12 #[.agg cs] w fun e w' => e = .returned (.bool pl) ∧ Below w.heap.size w w' from by have h := Plain_c t cs W.heap.size w ht hB; rw [PlainB, hm, Bool.true_and, hpl] at h; exact h))
  have HRP := Lib.hid (fun (w : World) (cs : Array Value) (ht : TyC w W.heap.size t cs) (hB : W.heap.size ≤ w.heap.size) => (show Calls Tryd.prog 14 #[.agg cs] w fun e w' => e = .returned (.bool pl) ∧ Below w.heap.size w w' from by have h := rPlain_c t cs W.heap.size w ht hB; rw [hpl] at h; exact h))
  have HTX := Lib.hid (rtext_c t hm)
  clear hm hpl
  obtain ⟨X, hX⟩ : ∃ X, ba (tx t) = X := ⟨_, rfl⟩
  have HXX := Lib.hid hX
  rw [hX]
  clear hX
  have hpp : (pl == pl) = true := by simp
  go_upto_region 9 with fail
  clear a0 a1 a2 a3 a4 a5 a6 lx
  have dn : Below W.heap.size W w4.drew := A4.out.drew
  go_region_held3 (fun w' => w'.cell? ⟨w.heap.size, 0, none⟩ = some (.int .i64 t.kind) ∧ w'.cell? ⟨w.heap.size, 1, none⟩ = some (.string t.pkg) ∧ w'.cell? ⟨w.heap.size, 2, none⟩ = some (.int .i64 t.major) ∧ w'.cell? ⟨w.heap.size, 3, none⟩ = some (.string t.mod) ∧ w'.cell? ⟨w.heap.size, 4, none⟩ = some (.string t.name) ∧ w'.cell? ⟨w.heap.size, 5, none⟩ = some (.slice na t.names.length nc) ∧ w'.cell? ⟨w.heap.size, 6, none⟩ = some (.slice sa t.subs.length sc) ∧ Below W.heap.size W w')
    (exact keep7b BX.out dn)
    (first
      | (go_at_call 10; refine (HMY.out _ _ (HT.out.under dn) dn.size).mono ?_; rintro e wn ⟨rfl, hb⟩; have dn : Below W.heap.size W wn := dn.trans (hb.mono dn.size))
      | (go_at_call 11; refine (HSZ.out _ _ (HT.out.under dn) dn.size).mono ?_; rintro e wn ⟨rfl, hb⟩; have dn : Below W.heap.size W wn := dn.trans (hb.mono dn.size))
      | (go_at_call 13; refine (many_c t _ W.heap.size _ (HT.out.under dn) dn.size HM9.out).mono ?_; rintro e wn ⟨rfl, hb⟩; have dn : Below W.heap.size W wn := dn.trans (hb.mono dn.size))
      | (go_at_call 12; refine (HPL.out _ _ (HT.out.under dn) dn.size).mono ?_; rintro e wn ⟨rfl, hb⟩; have dn : Below W.heap.size W wn := dn.trans (hb.mono dn.size))
      | (go_at_call 14; refine (HRP.out _ _ (HT.out.under dn) dn.size).mono ?_; rintro e wn ⟨rfl, hb⟩; have dn : Below W.heap.size W wn := dn.trans (hb.mono dn.size))
      | (go_at_call 15; refine (HTX.out _ W.heap.size _ (HT.out.under dn) dn.size).mono ?_; rintro e wn ⟨rfl, hb⟩; rw [HXX.out]; have dn : Below W.heap.size W wn := dn.trans (hb.mono dn.size)))
  all_goals
    go_wp2
    go_ret
    exact ⟨rfl, acc0 XB.out XB.out.size dn⟩
end Go.Proofs.YtalpmjmifcofeaaDoor
