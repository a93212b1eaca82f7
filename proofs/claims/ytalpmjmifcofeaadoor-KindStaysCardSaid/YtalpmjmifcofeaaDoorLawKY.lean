/- merlonlaw04.KindStays returns true; the premise: strconv's table is as laid. -/
import Derived.Test.YtalpmjmifcofeaaDoorUpK
import Derived.Test.YtalpmjmifcofeaaDoorCpD
import Derived.Test.YtalpmjmifcofeaaDoorRefSame
namespace Go.Proofs.YtalpmjmifcofeaaDoor
open Go.RowKit
set_option linter.unusedSimpArgs false
set_option linter.unusedVariables false
set_option maxRecDepth 100000 in
set_option maxHeartbeats 8000000 in
theorem stays_c (t : Ty) (cs : Array Value) (B : Nat) (w : World) (ht : TyC w B t cs) (hB : B ≤ w.heap.size) (htab : TabW w) :
    Calls Tryd.prog 5 #[.agg cs] w fun e w' => e = .returned (.bool true) ∧ Below w.heap.size w w' := by
  obtain ⟨na, nc, sa, sc, f, rfl, -⟩ := ht.inv
  have HT0 := Lib.hid ht
  have HTB0 := Lib.hid htab
  clear ht htab
  go_enter Tryd.func5, Tryd.ntmps5
  simp only [tyCells]
  go_wp2_with fail
  have x0 := Blk.new w #[.int .i64 t.kind, .string t.pkg, .int .i64 t.major, .string t.mod, .string t.name, .slice na t.names.length nc, .slice sa t.subs.length sc] 25
  have xb : Below w.heap.size w (w.alloc (.cells #[.int .i64 t.kind, .string t.pkg, .int .i64 t.major, .string t.mod, .string t.name, .slice na t.names.length nc, .slice sa t.subs.length sc] 25)) := (Below.refl _ w).alloc (Nat.le_refl _) _
  have hT := (HT0.out.under (xb.mono hB)).mono (show B ≤ (w.alloc (.cells #[.int .i64 t.kind, .string t.pkg, .int .i64 t.major, .string t.mod, .string t.name, .slice na t.names.length nc, .slice sa t.subs.length sc] 25)).heap.size from Nat.le_trans hB xb.size)
  have htb := HTB0.out.below xb
  simp only [tyCells] at hT
  generalize (w.alloc (.cells #[.int .i64 t.kind, .string t.pkg, .int .i64 t.major, .string t.mod, .string t.name, .slice na t.names.length nc, .slice sa t.subs.length sc] 25)) = W at x0 xb hT htb ⊢
  have BA := Lib.hid x0
  have XB := Lib.hid xb
  have TA := Lib.hid hT
  have HTB := Lib.hid htb
  clear x0 xb hT htb HT0 HTB0
  refine (up_c W HTB.out).mono ?_
  rintro e w1 ⟨rfl, hb⟩
  have A1 := Lib.hid hb
  clear hb
  have kA := BA.out.under A1.out BA.out.lt
  obtain ⟨ax0, ax1, ax2, ax3, ax4, ax5, ax6⟩ := cells7 kA
  have lA := kA.lt
  clear kA
  go_wp2_with fail
  refine (Few_c t _ W.heap.size w1 (TA.out.under A1.out) A1.out.size).mono ?_
  rintro e w2 ⟨rfl, hb⟩
  clear ax0 ax1 ax2 ax3 ax4 ax5 ax6 lA
  have A2 := Lib.hid (A1.out.trans (hb.mono A1.out.size))
  clear hb
  have kA := BA.out.under A2.out BA.out.lt
  obtain ⟨ax0, ax1, ax2, ax3, ax4, ax5, ax6⟩ := cells7 kA
  have lA := kA.lt
  clear kA
  cases hf : FewB t
  · go_wp2_with fail
    go_ret
    exact ⟨rfl, acc0 XB.out XB.out.size A2.out⟩
  have HF := Lib.hid (few1_of hf)
  clear hf
  go_wp2_with fail
  refine (copy_c t _ W.heap.size w2 (TA.out.under A2.out) A2.out.size HF.out).mono ?_
  rintro e w3 ⟨⟨cr, rfl, htm⟩, hb⟩
  obtain ⟨na5, nc5, sa5, sc5, fz, rfl, -⟩ := htm.inv
  clear ax0 ax1 ax2 ax3 ax4 ax5 ax6 lA
  have HTM := Lib.hid htm
  have A3 := Lib.hid (A2.out.trans (hb.mono A2.out.size))
  clear htm hb
  simp only [tyCells]
  go_upto_region 6 with fail
  have hsz := A3.out.size
  have hacc := A3.out.alloc hsz (.cells #[.int .i64 t.kind, .string t.pkg, .int .i64 t.major, .string t.mod, .string t.name, .slice na5 t.names.length nc5, .slice sa5 t.subs.length sc5] 25)
  have nbA := (BA.out.under A3.out BA.out.lt).alloc (.cells #[.int .i64 t.kind, .string t.pkg, .int .i64 t.major, .string t.mod, .string t.name, .slice na5 t.names.length nc5, .slice sa5 t.subs.length sc5] 25)
  have ntA := (TA.out.under A3.out).alloc hsz (.cells #[.int .i64 t.kind, .string t.pkg, .int .i64 t.major, .string t.mod, .string t.name, .slice na5 t.names.length nc5, .slice sa5 t.subs.length sc5] 25)
  have nbX := Blk.new w3 #[.int .i64 t.kind, .string t.pkg, .int .i64 t.major, .string t.mod, .string t.name, .slice na5 t.names.length nc5, .slice sa5 t.subs.length sc5] 25
  have ntX := (HTM.out.mono (M' := fun b => b < w3.heap.size) fun b hb => hb.2).toC.alloc (Nat.le_refl _) (.cells #[.int .i64 t.kind, .string t.pkg, .int .i64 t.major, .string t.mod, .string t.name, .slice na5 t.names.length nc5, .slice sa5 t.subs.length sc5] 25)
  simp only [tyCells] at ntX
  have hzs : (w3.alloc (.cells #[.int .i64 t.kind, .string t.pkg, .int .i64 t.major, .string t.mod, .string t.name, .slice na5 t.names.length nc5, .slice sa5 t.subs.length sc5] 25)).heap.size = w3.heap.size + 1 := by simp
  have ntX := ntX.mono (show w3.heap.size ≤ (w3.alloc (.cells #[.int .i64 t.kind, .string t.pkg, .int .i64 t.major, .string t.mod, .string t.name, .slice na5 t.names.length nc5, .slice sa5 t.subs.length sc5] 25)).heap.size by omega)
  have ntA := ntA.mono (show W.heap.size ≤ (w3.alloc (.cells #[.int .i64 t.kind, .string t.pkg, .int .i64 t.major, .string t.mod, .string t.name, .slice na5 t.names.length nc5, .slice sa5 t.subs.length sc5] 25)).heap.size by omega)
  generalize hxb : w3.heap.size = bX at nbX hzs hsz ⊢
  generalize (w3.alloc (.cells #[.int .i64 t.kind, .string t.pkg, .int .i64 t.major, .string t.mod, .string t.name, .slice na5 t.names.length nc5, .slice sa5 t.subs.length sc5] 25)) = V at hacc nbA ntA nbX ntX hzs ⊢
  have BX := Lib.hid nbX
  have HTV := Lib.hid (HTB.out.below hacc)
  have TX := Lib.hid ntX
  have XV := Lib.hid (acc0 XB.out XB.out.size hacc)
  clear BA TA
  have BA := Lib.hid nbA
  have TA := Lib.hid ntA
  clear nbX ntX nbA ntA hacc hzs hsz hxb HTM A1 A2 A3 HF
  have V0 := Lib.hid (Below.refl V.heap.size V)
  have kX := BX.out.under V0.out BX.out.lt
  obtain ⟨xx0, xx1, xx2, xx3, xx4, xx5, xx6⟩ := cells7 kX
  have lX := kX.lt
  clear kX
  go_wp2_with fail
  refine (print_c t _ V.heap.size V TX.out (Nat.le_refl _) HTV.out).mono ?_
  rintro e w4 ⟨rfl, hb⟩
  clear xx0 xx1 xx2 xx3 xx4 xx5 xx6 lX
  have A4 := Lib.hid (V0.out.trans (hb.mono V0.out.size))
  clear hb
  have kX := BX.out.under A4.out BX.out.lt
  obtain ⟨xx0, xx1, xx2, xx3, xx4, xx5, xx6⟩ := cells7 kX
  have lX := kX.lt
  clear kX
  go_wp2_with fail
  refine (Plain_c t _ V.heap.size w4 (TX.out.under A4.out) A4.out.size).mono ?_
  rintro e w5 ⟨rfl, hb⟩
  clear xx0 xx1 xx2 xx3 xx4 xx5 xx6 lX
  have A5 := Lib.hid (A4.out.trans (hb.mono A4.out.size))
  clear hb
  have kX := BX.out.under A5.out BX.out.lt
  obtain ⟨xx0, xx1, xx2, xx3, xx4, xx5, xx6⟩ := cells7 kX
  have lX := kX.lt
  clear kX
  go_wp2_with fail
  refine (Same_c t t _ _ V.heap.size w5 (TX.out.under A5.out) (TX.out.under A5.out) A5.out.size).mono ?_
  rintro e w6 ⟨rfl, hb⟩
  clear xx0 xx1 xx2 xx3 xx4 xx5 xx6 lX
  have A6 := Lib.hid (A5.out.trans (hb.mono A5.out.size))
  clear hb
  have kX := BX.out.under A6.out BX.out.lt
  obtain ⟨xx0, xx1, xx2, xx3, xx4, xx5, xx6⟩ := cells7 kX
  have lX := kX.lt
  have kA := BA.out.under A6.out BA.out.lt
  obtain ⟨ax0, ax1, ax2, ax3, ax4, ax5, ax6⟩ := cells7 kA
  have lA := kA.lt
  clear kX kA
  go_wp2_with fail
  refine (rSame_c t t _ _ V.heap.size w6 (TX.out.under A6.out) (TA.out.under A6.out) A6.out.size).mono ?_
  rintro e w7 ⟨rfl, hb⟩
  clear xx0 xx1 xx2 xx3 xx4 xx5 xx6 ax0 ax1 ax2 ax3 ax4 ax5 ax6 lX lA
  have A7 := Lib.hid (A6.out.trans (hb.mono A6.out.size))
  clear hb
  rw [(alike_iff t t).2 rfl]
  go_wp2_with fail
  go_ret
  exact ⟨rfl, acc0 XV.out XV.out.size A7.out⟩
end Go.Proofs.YtalpmjmifcofeaaDoor
