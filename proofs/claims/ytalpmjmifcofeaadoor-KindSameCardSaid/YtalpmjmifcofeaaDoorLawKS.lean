/- merlonlaw04.KindSame returns true; the premise: strconv's table is as laid. -/
import Derived.Test.YtalpmjmifcofeaaDoorUpK
import Derived.Test.YtalpmjmifcofeaaDoorRTextC
import Derived.Test.YtalpmjmifcofeaaDoorRefSame
namespace Go.Proofs.YtalpmjmifcofeaaDoor
open Go.RowKit
set_option linter.unusedSimpArgs false
set_option linter.unusedVariables false
theorem alike_flip (a b : Ty) : alikeT a b = alikeT b a := by
  cases h : alikeT a b
  · cases h' : alikeT b a
    · rfl
    · rw [(alike_iff b a).1 h', (alike_iff a a).2 rfl] at h; cases h
  · rw [(alike_iff a b).1 h, (alike_iff b b).2 rfl]
theorem text_same {a b : Ty} {v : Bool} (ma : mayT a = true) (mb : mayT b = true) (hv : alikeT a b = v) : ((printS a).toList == (printS b).toList) = v := by
  rw [printS, printS, ma, mb, if_pos rfl, if_pos rfl, ← hv, ba_eq]
  cases h : alikeT a b
  · refine decide_eq_false fun e => ?_
    have e1 : tx a = tx b := by have := congrArg bl e; rwa [bl_ba, bl_ba] at this
    have e2 := tx_inj (may_v ma).1 b (may_v mb).1 [] [] Stop.nil Stop.nil (by rw [List.append_nil, List.append_nil]; exact e1)
    rw [(alike_iff a b).2 e2.1] at h
    cases h
  · rw [(alike_iff a b).1 h]
    exact decide_eq_true rfl
set_option maxRecDepth 100000 in
set_option maxHeartbeats 8000000 in
theorem same_c (a b : Ty) (cs cs' : Array Value) (B : Nat) (w : World) (ha : TyC w B a cs) (hb : TyC w B b cs') (hB : B ≤ w.heap.size) (htab : TabW w) :
    Calls Tryd.prog 4 #[.agg cs, .agg cs'] w fun e w' => e = .returned (.bool true) ∧ Below w.heap.size w w' := by
  obtain ⟨na, nc, sa, sc, f, rfl, -⟩ := ha.inv
  obtain ⟨na', nc', sa', sc', f', rfl, -⟩ := hb.inv
  have HA := Lib.hid ha
  have HB := Lib.hid hb
  have HTB0 := Lib.hid htab
  clear ha hb htab
  go_enter Tryd.func4, Tryd.ntmps4
  simp only [tyCells]
  go_wp2_with fail
  have h2 := two_boxes w #[.int .i64 a.kind, .string a.pkg, .int .i64 a.major, .string a.mod, .string a.name, .slice na a.names.length nc, .slice sa a.subs.length sc] #[.int .i64 b.kind, .string b.pkg, .int .i64 b.major, .string b.mod, .string b.name, .slice na' b.names.length nc', .slice sa' b.subs.length sc'] 25 25
  generalize ((w.alloc (.cells #[.int .i64 a.kind, .string a.pkg, .int .i64 a.major, .string a.mod, .string a.name, .slice na a.names.length nc, .slice sa a.subs.length sc] 25)).alloc (.cells #[.int .i64 b.kind, .string b.pkg, .int .i64 b.major, .string b.mod, .string b.name, .slice na' b.names.length nc', .slice sa' b.subs.length sc'] 25)) = W at h2 ⊢
  obtain ⟨x0, x1, xs, xb⟩ := h2
  have hA := (HA.out.under (xb.mono hB)).mono (show B ≤ W.heap.size by omega)
  have hB' := (HB.out.under (xb.mono hB)).mono (show B ≤ W.heap.size by omega)
  simp only [tyCells] at hA hB'
  have TA := Lib.hid hA
  have TB := Lib.hid hB'
  have BA := Lib.hid x0
  have BB := Lib.hid x1
  have XB := Lib.hid xb
  have HTB := Lib.hid (HTB0.out.below xb)
  clear x0 x1 xs xb hA hB' HA HB HTB0
  refine (up_c W HTB.out).mono ?_
  rintro e w1 ⟨rfl, hb⟩
  have A1 := Lib.hid hb
  clear hb
  have kA := BA.out.under A1.out BA.out.lt
  obtain ⟨ax0, ax1, ax2, ax3, ax4, ax5, ax6⟩ := cells7 kA
  have lA := kA.lt
  clear kA
  go_wp2_with fail
  refine (Few_c a _ W.heap.size w1 (TA.out.under A1.out) A1.out.size).mono ?_
  rintro e w2 ⟨rfl, hb⟩
  clear ax0 ax1 ax2 ax3 ax4 ax5 ax6 lA
  have A2 := Lib.hid (A1.out.trans (hb.mono A1.out.size))
  clear hb
  have kB := BB.out.under A2.out BB.out.lt
  obtain ⟨bx0, bx1, bx2, bx3, bx4, bx5, bx6⟩ := cells7 kB
  have lB := kB.lt
  clear kB
  go_wp2_with fail
  refine (Few_c b _ W.heap.size w2 (TB.out.under A2.out) A2.out.size).mono ?_
  rintro e w3 ⟨rfl, hb⟩
  clear bx0 bx1 bx2 bx3 bx4 bx5 bx6 lB
  have A3 := Lib.hid (A2.out.trans (hb.mono A2.out.size))
  clear hb
  have kA := BA.out.under A3.out BA.out.lt
  obtain ⟨ax0, ax1, ax2, ax3, ax4, ax5, ax6⟩ := cells7 kA
  have lA := kA.lt
  clear kA
  cases fa : FewB a
  · go_wp2_with fail
    go_ret
    exact ⟨rfl, acc0 XB.out XB.out.size A3.out⟩
  have FA := Lib.hid (show manyT a ≤ 1000000000 by have := few_many a fa; omega)
  clear fa
  cases fb : FewB b
  · go_wp2_with fail
    go_ret
    exact ⟨rfl, acc0 XB.out XB.out.size A3.out⟩
  have FB := Lib.hid (show manyT b ≤ 1000000000 by have := few_many b fb; omega)
  clear fb
  obtain ⟨ma, hma⟩ : ∃ v, mayT a = v := ⟨_, rfl⟩
  obtain ⟨mb, hmb⟩ : ∃ v, mayT b = v := ⟨_, rfl⟩
  have HMA := Lib.hid hma
  have HMB := Lib.hid hmb
  clear hma hmb
  go_wp2_with fail
  refine (rMay_c a _ W.heap.size w3 (TA.out.under A3.out) A3.out.size FA.out).mono ?_
  rintro e w4 ⟨rfl, hb⟩
  clear ax0 ax1 ax2 ax3 ax4 ax5 ax6 lA
  have A4 := Lib.hid (A3.out.trans (hb.mono A3.out.size))
  clear hb
  rw [HMA.out]
  have kB := BB.out.under A4.out BB.out.lt
  obtain ⟨bx0, bx1, bx2, bx3, bx4, bx5, bx6⟩ := cells7 kB
  have lB := kB.lt
  clear kB
  go_wp2_with fail
  refine (rMay_c b _ W.heap.size w4 (TB.out.under A4.out) A4.out.size FB.out).mono ?_
  rintro e w5 ⟨rfl, hb⟩
  clear bx0 bx1 bx2 bx3 bx4 bx5 bx6 lB
  have A5 := Lib.hid (A4.out.trans (hb.mono A4.out.size))
  clear hb
  rw [HMB.out]
  have kA := BA.out.under A5.out BA.out.lt
  obtain ⟨ax0, ax1, ax2, ax3, ax4, ax5, ax6⟩ := cells7 kA
  have lA := kA.lt
  have kB := BB.out.under A5.out BB.out.lt
  obtain ⟨bx0, bx1, bx2, bx3, bx4, bx5, bx6⟩ := cells7 kB
  have lB := kB.lt
  clear kA kB
  cases ma
  · cases mb
    · skip
      have HAB := Lib.hid (show (mayT a && mayT b && alikeT a b) = false by rw [HMA.out, HMB.out]; rfl)
      have HBA := Lib.hid (show (mayT b && mayT a && alikeT b a) = false by rw [alike_flip b a, Bool.and_comm (mayT b) (mayT a)]; exact HAB.out)
      have hvv : (false != false) = false := by simp
      have hv2 : (false == false) = true := by simp
      go_wp2_with fail
      refine (Same_c a b _ _ W.heap.size w5 (TA.out.under A5.out) (TB.out.under A5.out) A5.out.size).mono ?_
      rintro e w7 ⟨rfl, hb⟩
      clear ax0 ax1 ax2 ax3 ax4 ax5 ax6 bx0 bx1 bx2 bx3 bx4 bx5 bx6 lA lB
      have A7 := Lib.hid (A5.out.trans (hb.mono A5.out.size))
      clear hb
      rw [HAB.out]
      have kA := BA.out.under A7.out BA.out.lt
      obtain ⟨ax0, ax1, ax2, ax3, ax4, ax5, ax6⟩ := cells7 kA
      have lA := kA.lt
      have kB := BB.out.under A7.out BB.out.lt
      obtain ⟨bx0, bx1, bx2, bx3, bx4, bx5, bx6⟩ := cells7 kB
      have lB := kB.lt
      clear kA kB
      go_wp2_with fail
      refine (Same_c b a _ _ W.heap.size w7 (TB.out.under A7.out) (TA.out.under A7.out) A7.out.size).mono ?_
      rintro e w8 ⟨rfl, hb⟩
      clear ax0 ax1 ax2 ax3 ax4 ax5 ax6 bx0 bx1 bx2 bx3 bx4 bx5 bx6 lA lB
      have A8 := Lib.hid (A7.out.trans (hb.mono A7.out.size))
      clear hb
      rw [HBA.out]
      have kA := BA.out.under A8.out BA.out.lt
      obtain ⟨ax0, ax1, ax2, ax3, ax4, ax5, ax6⟩ := cells7 kA
      have lA := kA.lt
      clear kA
      go_wp2_with fail
      refine (print_c a _ W.heap.size w8 (TA.out.under A8.out) A8.out.size (HTB.out.below A8.out)).mono ?_
      rintro e w9 ⟨rfl, hb⟩
      clear ax0 ax1 ax2 ax3 ax4 ax5 ax6 lA
      have A9 := Lib.hid (A8.out.trans (hb.mono A8.out.size))
      clear hb
      rw [show printE a = .iface 33 (.int .i64 1) from by rw [printE, HMA.out]; rfl]
      have kB := BB.out.under A9.out BB.out.lt
      obtain ⟨bx0, bx1, bx2, bx3, bx4, bx5, bx6⟩ := cells7 kB
      have lB := kB.lt
      clear kB
      go_wp2_with fail
      refine (print_c b _ W.heap.size w9 (TB.out.under A9.out) A9.out.size (HTB.out.below A9.out)).mono ?_
      rintro e w10 ⟨rfl, hb⟩
      clear bx0 bx1 bx2 bx3 bx4 bx5 bx6 lB
      have A10 := Lib.hid (A9.out.trans (hb.mono A9.out.size))
      clear hb
      rw [show printE b = .iface 33 (.int .i64 1) from by rw [printE, HMB.out]; rfl]
      have he := neq_errnil w10
      go_wp2_with fail
      go_ret
      exact ⟨rfl, acc0 XB.out XB.out.size A10.out⟩
    · skip
      have HAB := Lib.hid (show (mayT a && mayT b && alikeT a b) = false by rw [HMA.out, HMB.out]; rfl)
      have HBA := Lib.hid (show (mayT b && mayT a && alikeT b a) = false by rw [alike_flip b a, Bool.and_comm (mayT b) (mayT a)]; exact HAB.out)
      have hvv : (false != false) = false := by simp
      have hv2 : (false == false) = true := by simp
      go_wp2_with fail
      refine (Same_c a b _ _ W.heap.size w5 (TA.out.under A5.out) (TB.out.under A5.out) A5.out.size).mono ?_
      rintro e w7 ⟨rfl, hb⟩
      clear ax0 ax1 ax2 ax3 ax4 ax5 ax6 bx0 bx1 bx2 bx3 bx4 bx5 bx6 lA lB
      have A7 := Lib.hid (A5.out.trans (hb.mono A5.out.size))
      clear hb
      rw [HAB.out]
      have kA := BA.out.under A7.out BA.out.lt
      obtain ⟨ax0, ax1, ax2, ax3, ax4, ax5, ax6⟩ := cells7 kA
      have lA := kA.lt
      have kB := BB.out.under A7.out BB.out.lt
      obtain ⟨bx0, bx1, bx2, bx3, bx4, bx5, bx6⟩ := cells7 kB
      have lB := kB.lt
      clear kA kB
      go_wp2_with fail
      refine (Same_c b a _ _ W.heap.size w7 (TB.out.under A7.out) (TA.out.under A7.out) A7.out.size).mono ?_
      rintro e w8 ⟨rfl, hb⟩
      clear ax0 ax1 ax2 ax3 ax4 ax5 ax6 bx0 bx1 bx2 bx3 bx4 bx5 bx6 lA lB
      have A8 := Lib.hid (A7.out.trans (hb.mono A7.out.size))
      clear hb
      rw [HBA.out]
      have kA := BA.out.under A8.out BA.out.lt
      obtain ⟨ax0, ax1, ax2, ax3, ax4, ax5, ax6⟩ := cells7 kA
      have lA := kA.lt
      clear kA
      go_wp2_with fail
      refine (print_c a _ W.heap.size w8 (TA.out.under A8.out) A8.out.size (HTB.out.below A8.out)).mono ?_
      rintro e w9 ⟨rfl, hb⟩
      clear ax0 ax1 ax2 ax3 ax4 ax5 ax6 lA
      have A9 := Lib.hid (A8.out.trans (hb.mono A8.out.size))
      clear hb
      rw [show printE a = .iface 33 (.int .i64 1) from by rw [printE, HMA.out]; rfl]
      have kB := BB.out.under A9.out BB.out.lt
      obtain ⟨bx0, bx1, bx2, bx3, bx4, bx5, bx6⟩ := cells7 kB
      have lB := kB.lt
      clear kB
      go_wp2_with fail
      refine (print_c b _ W.heap.size w9 (TB.out.under A9.out) A9.out.size (HTB.out.below A9.out)).mono ?_
      rintro e w10 ⟨rfl, hb⟩
      clear bx0 bx1 bx2 bx3 bx4 bx5 bx6 lB
      have A10 := Lib.hid (A9.out.trans (hb.mono A9.out.size))
      clear hb
      rw [show printE b = .nilIface from by rw [printE, HMB.out]; rfl]
      have he := neq_errnil w10
      go_wp2_with fail
      go_ret
      exact ⟨rfl, acc0 XB.out XB.out.size A10.out⟩
  · cases mb
    · skip
      have HAB := Lib.hid (show (mayT a && mayT b && alikeT a b) = false by rw [HMA.out, HMB.out]; rfl)
      have HBA := Lib.hid (show (mayT b && mayT a && alikeT b a) = false by rw [alike_flip b a, Bool.and_comm (mayT b) (mayT a)]; exact HAB.out)
      have hvv : (false != false) = false := by simp
      have hv2 : (false == false) = true := by simp
      go_wp2_with fail
      refine (Same_c a b _ _ W.heap.size w5 (TA.out.under A5.out) (TB.out.under A5.out) A5.out.size).mono ?_
      rintro e w7 ⟨rfl, hb⟩
      clear ax0 ax1 ax2 ax3 ax4 ax5 ax6 bx0 bx1 bx2 bx3 bx4 bx5 bx6 lA lB
      have A7 := Lib.hid (A5.out.trans (hb.mono A5.out.size))
      clear hb
      rw [HAB.out]
      have kA := BA.out.under A7.out BA.out.lt
      obtain ⟨ax0, ax1, ax2, ax3, ax4, ax5, ax6⟩ := cells7 kA
      have lA := kA.lt
      have kB := BB.out.under A7.out BB.out.lt
      obtain ⟨bx0, bx1, bx2, bx3, bx4, bx5, bx6⟩ := cells7 kB
      have lB := kB.lt
      clear kA kB
      go_wp2_with fail
      refine (Same_c b a _ _ W.heap.size w7 (TB.out.under A7.out) (TA.out.under A7.out) A7.out.size).mono ?_
      rintro e w8 ⟨rfl, hb⟩
      clear ax0 ax1 ax2 ax3 ax4 ax5 ax6 bx0 bx1 bx2 bx3 bx4 bx5 bx6 lA lB
      have A8 := Lib.hid (A7.out.trans (hb.mono A7.out.size))
      clear hb
      rw [HBA.out]
      have kA := BA.out.under A8.out BA.out.lt
      obtain ⟨ax0, ax1, ax2, ax3, ax4, ax5, ax6⟩ := cells7 kA
      have lA := kA.lt
      clear kA
      go_wp2_with fail
      refine (print_c a _ W.heap.size w8 (TA.out.under A8.out) A8.out.size (HTB.out.below A8.out)).mono ?_
      rintro e w9 ⟨rfl, hb⟩
      clear ax0 ax1 ax2 ax3 ax4 ax5 ax6 lA
      have A9 := Lib.hid (A8.out.trans (hb.mono A8.out.size))
      clear hb
      rw [show printE a = .nilIface from by rw [printE, HMA.out]; rfl]
      have kB := BB.out.under A9.out BB.out.lt
      obtain ⟨bx0, bx1, bx2, bx3, bx4, bx5, bx6⟩ := cells7 kB
      have lB := kB.lt
      clear kB
      go_wp2_with fail
      refine (print_c b _ W.heap.size w9 (TB.out.under A9.out) A9.out.size (HTB.out.below A9.out)).mono ?_
      rintro e w10 ⟨rfl, hb⟩
      clear bx0 bx1 bx2 bx3 bx4 bx5 bx6 lB
      have A10 := Lib.hid (A9.out.trans (hb.mono A9.out.size))
      clear hb
      rw [show printE b = .iface 33 (.int .i64 1) from by rw [printE, HMB.out]; rfl]
      have he := neq_errnil w10
      go_wp2_with fail
      go_ret
      exact ⟨rfl, acc0 XB.out XB.out.size A10.out⟩
    · skip
      obtain ⟨v, hv⟩ : ∃ v, alikeT a b = v := ⟨_, rfl⟩
      have HV := Lib.hid hv
      clear hv
      have HAB := Lib.hid (show (mayT a && mayT b && alikeT a b) = v by rw [HMA.out, HMB.out, HV.out]; rfl)
      have HBA := Lib.hid (show (mayT b && mayT a && alikeT b a) = v by rw [alike_flip b a, Bool.and_comm (mayT b) (mayT a)]; exact HAB.out)
      have hvv : (v != v) = false := by simp
      have hv2 : (v == v) = true := by simp
      go_wp2_with fail
      refine (rSame_c a b _ _ W.heap.size w5 (TA.out.under A5.out) (TB.out.under A5.out) A5.out.size).mono ?_
      rintro e w6 ⟨rfl, hb⟩
      clear ax0 ax1 ax2 ax3 ax4 ax5 ax6 bx0 bx1 bx2 bx3 bx4 bx5 bx6 lA lB
      have A6 := Lib.hid (A5.out.trans (hb.mono A5.out.size))
      clear hb
      rw [HV.out]
      have kA := BA.out.under A6.out BA.out.lt
      obtain ⟨ax0, ax1, ax2, ax3, ax4, ax5, ax6⟩ := cells7 kA
      have lA := kA.lt
      have kB := BB.out.under A6.out BB.out.lt
      obtain ⟨bx0, bx1, bx2, bx3, bx4, bx5, bx6⟩ := cells7 kB
      have lB := kB.lt
      clear kA kB
      go_wp2_with fail
      refine (Same_c a b _ _ W.heap.size w6 (TA.out.under A6.out) (TB.out.under A6.out) A6.out.size).mono ?_
      rintro e w7 ⟨rfl, hb⟩
      clear ax0 ax1 ax2 ax3 ax4 ax5 ax6 bx0 bx1 bx2 bx3 bx4 bx5 bx6 lA lB
      have A7 := Lib.hid (A6.out.trans (hb.mono A6.out.size))
      clear hb
      rw [HAB.out]
      have kA := BA.out.under A7.out BA.out.lt
      obtain ⟨ax0, ax1, ax2, ax3, ax4, ax5, ax6⟩ := cells7 kA
      have lA := kA.lt
      have kB := BB.out.under A7.out BB.out.lt
      obtain ⟨bx0, bx1, bx2, bx3, bx4, bx5, bx6⟩ := cells7 kB
      have lB := kB.lt
      clear kA kB
      go_wp2_with fail
      refine (Same_c b a _ _ W.heap.size w7 (TB.out.under A7.out) (TA.out.under A7.out) A7.out.size).mono ?_
      rintro e w8 ⟨rfl, hb⟩
      clear ax0 ax1 ax2 ax3 ax4 ax5 ax6 bx0 bx1 bx2 bx3 bx4 bx5 bx6 lA lB
      have A8 := Lib.hid (A7.out.trans (hb.mono A7.out.size))
      clear hb
      rw [HBA.out]
      have kA := BA.out.under A8.out BA.out.lt
      obtain ⟨ax0, ax1, ax2, ax3, ax4, ax5, ax6⟩ := cells7 kA
      have lA := kA.lt
      clear kA
      go_wp2_with fail
      refine (print_c a _ W.heap.size w8 (TA.out.under A8.out) A8.out.size (HTB.out.below A8.out)).mono ?_
      rintro e w9 ⟨rfl, hb⟩
      clear ax0 ax1 ax2 ax3 ax4 ax5 ax6 lA
      have A9 := Lib.hid (A8.out.trans (hb.mono A8.out.size))
      clear hb
      rw [show printE a = .nilIface from by rw [printE, HMA.out]; rfl]
      have kB := BB.out.under A9.out BB.out.lt
      obtain ⟨bx0, bx1, bx2, bx3, bx4, bx5, bx6⟩ := cells7 kB
      have lB := kB.lt
      clear kB
      go_wp2_with fail
      refine (print_c b _ W.heap.size w9 (TB.out.under A9.out) A9.out.size (HTB.out.below A9.out)).mono ?_
      rintro e w10 ⟨rfl, hb⟩
      clear bx0 bx1 bx2 bx3 bx4 bx5 bx6 lB
      have A10 := Lib.hid (A9.out.trans (hb.mono A9.out.size))
      clear hb
      rw [show printE b = .nilIface from by rw [printE, HMB.out]; rfl]
      have he := neq_errnil w10
      have hst : ((printS a).toList == (printS b).toList) = v := text_same (HMA.out) (HMB.out) HV.out
      obtain ⟨sa1, hsa⟩ : ∃ s, printS a = s := ⟨_, rfl⟩
      obtain ⟨sb1, hsb⟩ : ∃ s, printS b = s := ⟨_, rfl⟩
      rw [hsa, hsb] at hst
      rw [hsa, hsb]
      clear hsa hsb
      go_wp2_with fail
      go_ret
      exact ⟨rfl, acc0 XB.out XB.out.size A10.out⟩
end Go.Proofs.YtalpmjmifcofeaaDoor
