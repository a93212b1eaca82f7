/- merlonlaw09.SubStays returns true. -/
import Derived.Test.YtalpmjmifcofeaaUp
import Derived.Test.YtalpmjmifcofeaaSubP
import Derived.Test.YtalpmjmifcofeaaRefSame
import Derived.Test.YtalpmjmifcofeaaWholeO
import Derived.Test.YtalpmjmifcofeaaSpoilC
import Derived.Test.YtalpmjmifcofeaaCp
import Derived.Deep.DeepCutAuto
import Derived.Deep.Cut
namespace Go.Proofs.Ytalpmjmifcofeaa
open Go.RowKit
set_option linter.unusedSimpArgs false
set_option linter.unusedVariables false
theorem whole_may {up : Bool} {a b x : Ty} (h : wholeF up a b = some x) : mayT x = true := by
  unfold wholeF at h
  split at h
  · cases hb : bndF 32 up a b with
    | none => rw [hb] at h; cases h
    | some t =>
      rw [hb] at h
      dsimp only at h
      split at h
      · rename_i hm
        cases h
        exact hm
      · cases h
  · cases h
theorem shp_get {up : Bool} {a b j : Ty} {R : Option Ty} {w : World} {B E : Nat} {cs : Array Value} (hR : wholeF up a b = R) (hj : getT R = j) (h : TyM w (fun b => (B ≤ b ∧ b < E) ∧ Opn w b) j cs) : Shp 32 w B E cs := by
  cases R with
  | some x =>
    obtain rfl : x = j := hj
    exact shp_of 32 x cs h (may_deep (whole_may hR)) (whole_may hR)
  | none =>
    obtain rfl : zeroTy = j := hj
    obtain ⟨na, nc, sa, sc, f, rfl, -⟩ := h.inv
    exact ⟨0, _, 0, _, _, na, 0, nc, sa, 0, sc, rfl, by omega, by omega, fun i hi => by omega, fun i hi => by omega⟩
theorem Sim.of_below {w w' : World} (h : Below w.heap.size w w') : Sim w w' :=
  ⟨fun p v hv => ⟨v, (h.cell (World.block_lt_of_cell? w _ hv)).trans hv, .inl rfl⟩, fun p hp => h.frozen hp, h.size⟩
set_option maxRecDepth 100000 in
set_option maxHeartbeats 8000000 in
theorem stays_c (a b : Ty) (cs cs' : Array Value) (B : Nat) (w : World) (ha : TyC w B a cs) (hb : TyC w B b cs') (hB : B ≤ w.heap.size) :
    Calls Try.prog 6 #[.agg cs, .agg cs'] w fun e w' => e = .returned (.bool true) ∧ Below w.heap.size w w' := by
  obtain ⟨na, nc, sa, sc, f, rfl, -⟩ := ha.inv
  obtain ⟨na', nc', sa', sc', f', rfl, -⟩ := hb.inv
  have HA := Lib.hid ha
  have HB := Lib.hid hb
  clear ha hb
  go_enter Try.func6, Try.ntmps6
  simp only [tyCells]
  go_wp2_with fail
  have h2 := boxes2 w #[.int .i64 a.kind, .string a.pkg, .int .i64 a.major, .string a.mod, .string a.name, .slice na a.names.length nc, .slice sa a.subs.length sc] #[.int .i64 b.kind, .string b.pkg, .int .i64 b.major, .string b.mod, .string b.name, .slice na' b.names.length nc', .slice sa' b.subs.length sc'] 25
  generalize ((w.alloc (.cells #[.int .i64 a.kind, .string a.pkg, .int .i64 a.major, .string a.mod, .string a.name, .slice na a.names.length nc, .slice sa a.subs.length sc] 25)).alloc (.cells #[.int .i64 b.kind, .string b.pkg, .int .i64 b.major, .string b.mod, .string b.name, .slice na' b.names.length nc', .slice sa' b.subs.length sc'] 25)) = W at h2 ⊢
  obtain ⟨x0, x1, xs, xb⟩ := h2
  have hA := (HA.out.under (xb.mono hB)).mono (show B ≤ W.heap.size by omega)
  have hB' := (HB.out.under (xb.mono hB)).mono (show B ≤ W.heap.size by omega)
  simp only [tyCells] at hA hB'
  have TA := Lib.hid hA
  have TB := Lib.hid hB'
  have BA := Lib.hid x0
  have BB := Lib.hid x1
  have HBW := Lib.hid xb
  clear x0 x1 xs xb hA hB' HA HB
  refine (up_c W).mono ?_
  rintro e w1 ⟨rfl, hb⟩
  have A1 := Lib.hid hb
  clear hb
  have kA := BA.out.under A1.out BA.out.lt
  have ax0 := kA.cell 0
  have ax1 := kA.cell 1
  have ax2 := kA.cell 2
  have ax3 := kA.cell 3
  have ax4 := kA.cell 4
  have ax5 := kA.cell 5
  have ax6 := kA.cell 6
  have kB := BB.out.under A1.out BB.out.lt
  have bx0 := kB.cell 0
  have bx1 := kB.cell 1
  have bx2 := kB.cell 2
  have bx3 := kB.cell 3
  have bx4 := kB.cell 4
  have bx5 := kB.cell 5
  have bx6 := kB.cell 6
  simp at ax0 ax1 ax2 ax3 ax4 ax5 ax6 bx0 bx1 bx2 bx3 bx4 bx5 bx6
  have lA := kA.lt
  have lB := kB.lt
  clear kA kB
  go_wp2_with fail
  refine (plain0_c a _ W.heap.size w1 (TA.out.under A1.out) A1.out.size).mono ?_
  rintro e w2 ⟨rfl, hb⟩
  clear ax0 ax1 ax2 ax3 ax4 ax5 ax6 bx0 bx1 bx2 bx3 bx4 bx5 bx6 lA lB
  have A2 := Lib.hid (A1.out.trans (hb.mono A1.out.size))
  clear hb
  have kA := BA.out.under A2.out BA.out.lt
  have ax0 := kA.cell 0
  have ax1 := kA.cell 1
  have ax2 := kA.cell 2
  have ax3 := kA.cell 3
  have ax4 := kA.cell 4
  have ax5 := kA.cell 5
  have ax6 := kA.cell 6
  have kB := BB.out.under A2.out BB.out.lt
  have bx0 := kB.cell 0
  have bx1 := kB.cell 1
  have bx2 := kB.cell 2
  have bx3 := kB.cell 3
  have bx4 := kB.cell 4
  have bx5 := kB.cell 5
  have bx6 := kB.cell 6
  simp at ax0 ax1 ax2 ax3 ax4 ax5 ax6 bx0 bx1 bx2 bx3 bx4 bx5 bx6
  have lA := kA.lt
  have lB := kB.lt
  clear kA kB
  go_wp2_with fail
  refine (plain0_c b _ W.heap.size w2 (TB.out.under A2.out) A2.out.size).mono ?_
  rintro e w3 ⟨rfl, hb⟩
  clear ax0 ax1 ax2 ax3 ax4 ax5 ax6 bx0 bx1 bx2 bx3 bx4 bx5 bx6 lA lB
  have A3 := Lib.hid (A2.out.trans (hb.mono A2.out.size))
  clear hb
  have kA := BA.out.under A3.out BA.out.lt
  have ax0 := kA.cell 0
  have ax1 := kA.cell 1
  have ax2 := kA.cell 2
  have ax3 := kA.cell 3
  have ax4 := kA.cell 4
  have ax5 := kA.cell 5
  have ax6 := kA.cell 6
  have kB := BB.out.under A3.out BB.out.lt
  have bx0 := kB.cell 0
  have bx1 := kB.cell 1
  have bx2 := kB.cell 2
  have bx3 := kB.cell 3
  have bx4 := kB.cell 4
  have bx5 := kB.cell 5
  have bx6 := kB.cell 6
  simp at ax0 ax1 ax2 ax3 ax4 ax5 ax6 bx0 bx1 bx2 bx3 bx4 bx5 bx6
  have lA := kA.lt
  have lB := kB.lt
  clear kA kB
  cases ha : (FewB a && PlainB a)
  · go_wp2_with fail
    go_ret
    exact ⟨rfl, acc0 HBW.out HBW.out.size A3.out⟩
  cases hb : (FewB b && PlainB b)
  · go_wp2_with fail
    go_ret
    exact ⟨rfl, acc0 HBW.out HBW.out.size A3.out⟩
  have Pa := Lib.hid (show PlainB a = true by rw [Bool.and_eq_true] at ha; exact ha.2)
  have Pb := Lib.hid (show PlainB b = true by rw [Bool.and_eq_true] at hb; exact hb.2)
  clear ha hb
  go_wp2_with fail
  refine (copy_c a _ _ w3 (TA.out.under A3.out) A3.out.size (plain_may Pa.out)).mono ?_
  rintro e w4 ⟨⟨cr, rfl, htm⟩, hb⟩
  obtain ⟨na5, nc5, sa5, sc5, fz, rfl, -⟩ := htm.inv
  clear ax0 ax1 ax2 ax3 ax4 ax5 ax6 bx0 bx1 bx2 bx3 bx4 bx5 bx6 lA lB
  have HTM := Lib.hid htm
  have AC := Lib.hid ((A3.out).trans (hb.mono A3.out.size))
  clear htm hb
  have kA := BA.out.under AC.out BA.out.lt
  have ax0 := kA.cell 0
  have ax1 := kA.cell 1
  have ax2 := kA.cell 2
  have ax3 := kA.cell 3
  have ax4 := kA.cell 4
  have ax5 := kA.cell 5
  have ax6 := kA.cell 6
  have kB := BB.out.under AC.out BB.out.lt
  have bx0 := kB.cell 0
  have bx1 := kB.cell 1
  have bx2 := kB.cell 2
  have bx3 := kB.cell 3
  have bx4 := kB.cell 4
  have bx5 := kB.cell 5
  have bx6 := kB.cell 6
  simp at ax0 ax1 ax2 ax3 ax4 ax5 ax6 bx0 bx1 bx2 bx3 bx4 bx5 bx6
  have lA := kA.lt
  have lB := kB.lt
  clear kA kB
  simp only [tyCells]
  go_upto_region 7 with fail
  clear ax0 ax1 ax2 ax3 ax4 ax5 ax6 bx0 bx1 bx2 bx3 bx4 bx5 bx6 lA lB
  have hsz := AC.out.size
  have hbw2 : Below w.heap.size w (w4.alloc (.cells #[.int .i64 a.kind, .string a.pkg, .int .i64 a.major, .string a.mod, .string a.name, .slice na5 a.names.length nc5, .slice sa5 a.subs.length sc5] 25)) := (acc0 HBW.out HBW.out.size AC.out).alloc (by have := HBW.out.size; omega) _
  have nbA := (BA.out.under AC.out BA.out.lt).alloc (.cells #[.int .i64 a.kind, .string a.pkg, .int .i64 a.major, .string a.mod, .string a.name, .slice na5 a.names.length nc5, .slice sa5 a.subs.length sc5] 25)
  have ntA := ((TA.out.under AC.out).alloc hsz (.cells #[.int .i64 a.kind, .string a.pkg, .int .i64 a.major, .string a.mod, .string a.name, .slice na5 a.names.length nc5, .slice sa5 a.subs.length sc5] 25)).mono (show _ ≤ (w4.alloc (.cells #[.int .i64 a.kind, .string a.pkg, .int .i64 a.major, .string a.mod, .string a.name, .slice na5 a.names.length nc5, .slice sa5 a.subs.length sc5] 25)).heap.size by simp; omega)
  have nbB := (BB.out.under AC.out BB.out.lt).alloc (.cells #[.int .i64 a.kind, .string a.pkg, .int .i64 a.major, .string a.mod, .string a.name, .slice na5 a.names.length nc5, .slice sa5 a.subs.length sc5] 25)
  have ntB := ((TB.out.under AC.out).alloc hsz (.cells #[.int .i64 a.kind, .string a.pkg, .int .i64 a.major, .string a.mod, .string a.name, .slice na5 a.names.length nc5, .slice sa5 a.subs.length sc5] 25)).mono (show _ ≤ (w4.alloc (.cells #[.int .i64 a.kind, .string a.pkg, .int .i64 a.major, .string a.mod, .string a.name, .slice na5 a.names.length nc5, .slice sa5 a.subs.length sc5] 25)).heap.size by simp; omega)
  have nbX := Blk.new w4 #[.int .i64 a.kind, .string a.pkg, .int .i64 a.major, .string a.mod, .string a.name, .slice na5 a.names.length nc5, .slice sa5 a.subs.length sc5] 25
  have ntX := ((HTM.out.mono fun b hb => hb.2).toC.alloc (Nat.le_refl _) (.cells #[.int .i64 a.kind, .string a.pkg, .int .i64 a.major, .string a.mod, .string a.name, .slice na5 a.names.length nc5, .slice sa5 a.subs.length sc5] 25)).mono (show w4.heap.size ≤ (w4.alloc (.cells #[.int .i64 a.kind, .string a.pkg, .int .i64 a.major, .string a.mod, .string a.name, .slice na5 a.names.length nc5, .slice sa5 a.subs.length sc5] 25)).heap.size by simp)
  simp only [tyCells] at ntX
  generalize hxb : w4.heap.size = blkX at nbX ⊢
  generalize (w4.alloc (.cells #[.int .i64 a.kind, .string a.pkg, .int .i64 a.major, .string a.mod, .string a.name, .slice na5 a.names.length nc5, .slice sa5 a.subs.length sc5] 25)) = V1 at hbw2 nbA nbB nbX ntA ntB ntX ⊢
  clear hxb hsz HTM AC HBW BA TA BB TB
  have HBW := Lib.hid hbw2
  have BA := Lib.hid nbA
  have TA := Lib.hid ntA
  have BB := Lib.hid nbB
  have TB := Lib.hid ntB
  have BX := Lib.hid nbX
  have TX := Lib.hid ntX
  clear hbw2 nbA ntA nbB ntB nbX ntX
  clear A1 A2 A3
  have Z1 := Lib.hid (Below.refl V1.heap.size V1)
  have kA := BA.out.under Z1.out BA.out.lt
  have ax0 := kA.cell 0
  have ax1 := kA.cell 1
  have ax2 := kA.cell 2
  have ax3 := kA.cell 3
  have ax4 := kA.cell 4
  have ax5 := kA.cell 5
  have ax6 := kA.cell 6
  have kB := BB.out.under Z1.out BB.out.lt
  have bx0 := kB.cell 0
  have bx1 := kB.cell 1
  have bx2 := kB.cell 2
  have bx3 := kB.cell 3
  have bx4 := kB.cell 4
  have bx5 := kB.cell 5
  have bx6 := kB.cell 6
  have kX := BX.out.under Z1.out BX.out.lt
  have xx0 := kX.cell 0
  have xx1 := kX.cell 1
  have xx2 := kX.cell 2
  have xx3 := kX.cell 3
  have xx4 := kX.cell 4
  have xx5 := kX.cell 5
  have xx6 := kX.cell 6
  simp at ax0 ax1 ax2 ax3 ax4 ax5 ax6 bx0 bx1 bx2 bx3 bx4 bx5 bx6 xx0 xx1 xx2 xx3 xx4 xx5 xx6
  have lA := kA.lt
  have lB := kB.lt
  have lX := kX.lt
  clear kA kB kX
  go_wp2_with fail
  refine (copy_c b _ _ V1 (TB.out.under Z1.out) Z1.out.size (plain_may Pb.out)).mono ?_
  rintro e w5 ⟨⟨cr, rfl, htm⟩, hb⟩
  obtain ⟨na6, nc6, sa6, sc6, fz, rfl, -⟩ := htm.inv
  clear ax0 ax1 ax2 ax3 ax4 ax5 ax6 bx0 bx1 bx2 bx3 bx4 bx5 bx6 xx0 xx1 xx2 xx3 xx4 xx5 xx6 lA lB lX
  have HTM := Lib.hid htm
  have AC := Lib.hid ((Z1.out).trans (hb.mono Z1.out.size))
  clear htm hb
  have kA := BA.out.under AC.out BA.out.lt
  have ax0 := kA.cell 0
  have ax1 := kA.cell 1
  have ax2 := kA.cell 2
  have ax3 := kA.cell 3
  have ax4 := kA.cell 4
  have ax5 := kA.cell 5
  have ax6 := kA.cell 6
  have kB := BB.out.under AC.out BB.out.lt
  have bx0 := kB.cell 0
  have bx1 := kB.cell 1
  have bx2 := kB.cell 2
  have bx3 := kB.cell 3
  have bx4 := kB.cell 4
  have bx5 := kB.cell 5
  have bx6 := kB.cell 6
  have kX := BX.out.under AC.out BX.out.lt
  have xx0 := kX.cell 0
  have xx1 := kX.cell 1
  have xx2 := kX.cell 2
  have xx3 := kX.cell 3
  have xx4 := kX.cell 4
  have xx5 := kX.cell 5
  have xx6 := kX.cell 6
  simp at ax0 ax1 ax2 ax3 ax4 ax5 ax6 bx0 bx1 bx2 bx3 bx4 bx5 bx6 xx0 xx1 xx2 xx3 xx4 xx5 xx6
  have lA := kA.lt
  have lB := kB.lt
  have lX := kX.lt
  clear kA kB kX
  simp only [tyCells]
  go_upto_region 8 with fail
  clear ax0 ax1 ax2 ax3 ax4 ax5 ax6 bx0 bx1 bx2 bx3 bx4 bx5 bx6 xx0 xx1 xx2 xx3 xx4 xx5 xx6 lA lB lX
  have hsz := AC.out.size
  have hbw2 : Below w.heap.size w (w5.alloc (.cells #[.int .i64 b.kind, .string b.pkg, .int .i64 b.major, .string b.mod, .string b.name, .slice na6 b.names.length nc6, .slice sa6 b.subs.length sc6] 25)) := (acc0 HBW.out HBW.out.size AC.out).alloc (by have := HBW.out.size; omega) _
  have nbA := (BA.out.under AC.out BA.out.lt).alloc (.cells #[.int .i64 b.kind, .string b.pkg, .int .i64 b.major, .string b.mod, .string b.name, .slice na6 b.names.length nc6, .slice sa6 b.subs.length sc6] 25)
  have ntA := ((TA.out.under AC.out).alloc hsz (.cells #[.int .i64 b.kind, .string b.pkg, .int .i64 b.major, .string b.mod, .string b.name, .slice na6 b.names.length nc6, .slice sa6 b.subs.length sc6] 25)).mono (show _ ≤ (w5.alloc (.cells #[.int .i64 b.kind, .string b.pkg, .int .i64 b.major, .string b.mod, .string b.name, .slice na6 b.names.length nc6, .slice sa6 b.subs.length sc6] 25)).heap.size by simp; omega)
  have nbB := (BB.out.under AC.out BB.out.lt).alloc (.cells #[.int .i64 b.kind, .string b.pkg, .int .i64 b.major, .string b.mod, .string b.name, .slice na6 b.names.length nc6, .slice sa6 b.subs.length sc6] 25)
  have ntB := ((TB.out.under AC.out).alloc hsz (.cells #[.int .i64 b.kind, .string b.pkg, .int .i64 b.major, .string b.mod, .string b.name, .slice na6 b.names.length nc6, .slice sa6 b.subs.length sc6] 25)).mono (show _ ≤ (w5.alloc (.cells #[.int .i64 b.kind, .string b.pkg, .int .i64 b.major, .string b.mod, .string b.name, .slice na6 b.names.length nc6, .slice sa6 b.subs.length sc6] 25)).heap.size by simp; omega)
  have nbX := (BX.out.under AC.out BX.out.lt).alloc (.cells #[.int .i64 b.kind, .string b.pkg, .int .i64 b.major, .string b.mod, .string b.name, .slice na6 b.names.length nc6, .slice sa6 b.subs.length sc6] 25)
  have ntX := ((TX.out.under AC.out).alloc hsz (.cells #[.int .i64 b.kind, .string b.pkg, .int .i64 b.major, .string b.mod, .string b.name, .slice na6 b.names.length nc6, .slice sa6 b.subs.length sc6] 25)).mono (show _ ≤ (w5.alloc (.cells #[.int .i64 b.kind, .string b.pkg, .int .i64 b.major, .string b.mod, .string b.name, .slice na6 b.names.length nc6, .slice sa6 b.subs.length sc6] 25)).heap.size by simp; omega)
  have nbY := Blk.new w5 #[.int .i64 b.kind, .string b.pkg, .int .i64 b.major, .string b.mod, .string b.name, .slice na6 b.names.length nc6, .slice sa6 b.subs.length sc6] 25
  have ntY := ((HTM.out.mono fun b hb => hb.2).toC.alloc (Nat.le_refl _) (.cells #[.int .i64 b.kind, .string b.pkg, .int .i64 b.major, .string b.mod, .string b.name, .slice na6 b.names.length nc6, .slice sa6 b.subs.length sc6] 25)).mono (show w5.heap.size ≤ (w5.alloc (.cells #[.int .i64 b.kind, .string b.pkg, .int .i64 b.major, .string b.mod, .string b.name, .slice na6 b.names.length nc6, .slice sa6 b.subs.length sc6] 25)).heap.size by simp)
  simp only [tyCells] at ntY
  generalize hxb : w5.heap.size = blkY at nbY ⊢
  generalize (w5.alloc (.cells #[.int .i64 b.kind, .string b.pkg, .int .i64 b.major, .string b.mod, .string b.name, .slice na6 b.names.length nc6, .slice sa6 b.subs.length sc6] 25)) = V2 at hbw2 nbA nbB nbX nbY ntA ntB ntX ntY ⊢
  clear hxb hsz HTM AC HBW BA TA BB TB BX TX
  have HBW := Lib.hid hbw2
  have BA := Lib.hid nbA
  have TA := Lib.hid ntA
  have BB := Lib.hid nbB
  have TB := Lib.hid ntB
  have BX := Lib.hid nbX
  have TX := Lib.hid ntX
  have BY := Lib.hid nbY
  have TY := Lib.hid ntY
  clear hbw2 nbA ntA nbB ntB nbX ntX nbY ntY
  clear Z1
  have Z2 := Lib.hid (Below.refl V2.heap.size V2)
  have kA := BA.out.under Z2.out BA.out.lt
  have ax0 := kA.cell 0
  have ax1 := kA.cell 1
  have ax2 := kA.cell 2
  have ax3 := kA.cell 3
  have ax4 := kA.cell 4
  have ax5 := kA.cell 5
  have ax6 := kA.cell 6
  have kB := BB.out.under Z2.out BB.out.lt
  have bx0 := kB.cell 0
  have bx1 := kB.cell 1
  have bx2 := kB.cell 2
  have bx3 := kB.cell 3
  have bx4 := kB.cell 4
  have bx5 := kB.cell 5
  have bx6 := kB.cell 6
  have kX := BX.out.under Z2.out BX.out.lt
  have xx0 := kX.cell 0
  have xx1 := kX.cell 1
  have xx2 := kX.cell 2
  have xx3 := kX.cell 3
  have xx4 := kX.cell 4
  have xx5 := kX.cell 5
  have xx6 := kX.cell 6
  have kY := BY.out.under Z2.out BY.out.lt
  have yx0 := kY.cell 0
  have yx1 := kY.cell 1
  have yx2 := kY.cell 2
  have yx3 := kY.cell 3
  have yx4 := kY.cell 4
  have yx5 := kY.cell 5
  have yx6 := kY.cell 6
  simp at ax0 ax1 ax2 ax3 ax4 ax5 ax6 bx0 bx1 bx2 bx3 bx4 bx5 bx6 xx0 xx1 xx2 xx3 xx4 xx5 xx6 yx0 yx1 yx2 yx3 yx4 yx5 yx6
  have lA := kA.lt
  have lB := kB.lt
  have lX := kX.lt
  have lY := kY.lt
  clear kA kB kX kY
  obtain ⟨R, hR⟩ : ∃ R, wholeF true a b = R := ⟨_, rfl⟩
  obtain ⟨S, hS⟩ : ∃ S, wholeF false a b = S := ⟨_, rfl⟩
  obtain ⟨j, hj⟩ : ∃ j, getT R = j := ⟨_, rfl⟩
  obtain ⟨m, hm⟩ : ∃ m, getT S = m := ⟨_, rfl⟩
  have HJ := Lib.hid (And.intro hR hj)
  have HM := Lib.hid (And.intro hS hm)
  clear hR hS hj hm
  obtain ⟨is, his⟩ : ∃ v, R.isSome = v := ⟨_, rfl⟩
  obtain ⟨was, hwas⟩ : ∃ v, S.isSome = v := ⟨_, rfl⟩
  have HIS := Lib.hid his
  have HWS := Lib.hid hwas
  clear his hwas
  go_wp2_with fail
  have hJ := Join_o a b _ _ V2.heap.size V2 TX.out TY.out (Nat.le_refl _)
  rw [HJ.out.1, HJ.out.2, HIS.out] at hJ
  refine hJ.mono ?_
  rintro e w7 ⟨⟨cr, rfl, htm⟩, hb⟩
  clear hJ
  obtain ⟨na7, nc7, sa7, sc7, fz, rfl, -⟩ := htm.inv
  clear ax0 ax1 ax2 ax3 ax4 ax5 ax6 bx0 bx1 bx2 bx3 bx4 bx5 bx6 xx0 xx1 xx2 xx3 xx4 xx5 xx6 yx0 yx1 yx2 yx3 yx4 yx5 yx6 lA lB lX lY
  have A7 := Lib.hid hb
  have SJ := Lib.hid (shp_get (B := V2.heap.size) (E := w7.heap.size) HJ.out.1 HJ.out.2 (htm.mono fun b hb => ⟨hb.1, hb.2⟩))
  clear htm hb
  have kA := BA.out.under A7.out BA.out.lt
  have ax0 := kA.cell 0
  have ax1 := kA.cell 1
  have ax2 := kA.cell 2
  have ax3 := kA.cell 3
  have ax4 := kA.cell 4
  have ax5 := kA.cell 5
  have ax6 := kA.cell 6
  have kB := BB.out.under A7.out BB.out.lt
  have bx0 := kB.cell 0
  have bx1 := kB.cell 1
  have bx2 := kB.cell 2
  have bx3 := kB.cell 3
  have bx4 := kB.cell 4
  have bx5 := kB.cell 5
  have bx6 := kB.cell 6
  have kX := BX.out.under A7.out BX.out.lt
  have xx0 := kX.cell 0
  have xx1 := kX.cell 1
  have xx2 := kX.cell 2
  have xx3 := kX.cell 3
  have xx4 := kX.cell 4
  have xx5 := kX.cell 5
  have xx6 := kX.cell 6
  have kY := BY.out.under A7.out BY.out.lt
  have yx0 := kY.cell 0
  have yx1 := kY.cell 1
  have yx2 := kY.cell 2
  have yx3 := kY.cell 3
  have yx4 := kY.cell 4
  have yx5 := kY.cell 5
  have yx6 := kY.cell 6
  simp at ax0 ax1 ax2 ax3 ax4 ax5 ax6 bx0 bx1 bx2 bx3 bx4 bx5 bx6 xx0 xx1 xx2 xx3 xx4 xx5 xx6 yx0 yx1 yx2 yx3 yx4 yx5 yx6
  have lA := kA.lt
  have lB := kB.lt
  have lX := kX.lt
  have lY := kY.lt
  clear kA kB kX kY
  simp only [tyCells]
  go_upto_region 9 with fail
  clear ax0 ax1 ax2 ax3 ax4 ax5 ax6 bx0 bx1 bx2 bx3 bx4 bx5 bx6 xx0 xx1 xx2 xx3 xx4 xx5 xx6 yx0 yx1 yx2 yx3 yx4 yx5 yx6 lA lB lX lY
  have nb := A7.out.alloc A7.out.size (.cells #[.int .i64 j.kind, .string j.pkg, .int .i64 j.major, .string j.mod, .string j.name, .slice na7 j.names.length nc7, .slice sa7 j.subs.length sc7] 25)
  have nj := Blk.new w7 #[.int .i64 j.kind, .string j.pkg, .int .i64 j.major, .string j.mod, .string j.name, .slice na7 j.names.length nc7, .slice sa7 j.subs.length sc7] 25
  have sj := SJ.out.later (Sim.alloc w7 (.cells #[.int .i64 j.kind, .string j.pkg, .int .i64 j.major, .string j.mod, .string j.name, .slice na7 j.names.length nc7, .slice sa7 j.subs.length sc7] 25))
  simp only [tyCells] at sj
  have hz3 : (w7.alloc (.cells #[.int .i64 j.kind, .string j.pkg, .int .i64 j.major, .string j.mod, .string j.name, .slice na7 j.names.length nc7, .slice sa7 j.subs.length sc7] 25)).heap.size = w7.heap.size + 1 := by simp
  have h7 := A7.out.size
  generalize hE : w7.heap.size = E1 at nj sj hz3 h7 ⊢
  generalize (w7.alloc (.cells #[.int .i64 j.kind, .string j.pkg, .int .i64 j.major, .string j.mod, .string j.name, .slice na7 j.names.length nc7, .slice sa7 j.subs.length sc7] 25)) = V3 at nb nj sj hz3 ⊢
  have A3 := Lib.hid nb
  have BJ := Lib.hid nj
  have SJ3 := Lib.hid sj
  have HZ3 := Lib.hid hz3
  clear nb nj sj hz3 SJ A7 hE
  have kA := BA.out.under A3.out BA.out.lt
  have ax0 := kA.cell 0
  have ax1 := kA.cell 1
  have ax2 := kA.cell 2
  have ax3 := kA.cell 3
  have ax4 := kA.cell 4
  have ax5 := kA.cell 5
  have ax6 := kA.cell 6
  have kB := BB.out.under A3.out BB.out.lt
  have bx0 := kB.cell 0
  have bx1 := kB.cell 1
  have bx2 := kB.cell 2
  have bx3 := kB.cell 3
  have bx4 := kB.cell 4
  have bx5 := kB.cell 5
  have bx6 := kB.cell 6
  have kX := BX.out.under A3.out BX.out.lt
  have xx0 := kX.cell 0
  have xx1 := kX.cell 1
  have xx2 := kX.cell 2
  have xx3 := kX.cell 3
  have xx4 := kX.cell 4
  have xx5 := kX.cell 5
  have xx6 := kX.cell 6
  have kY := BY.out.under A3.out BY.out.lt
  have yx0 := kY.cell 0
  have yx1 := kY.cell 1
  have yx2 := kY.cell 2
  have yx3 := kY.cell 3
  have yx4 := kY.cell 4
  have yx5 := kY.cell 5
  have yx6 := kY.cell 6
  simp at ax0 ax1 ax2 ax3 ax4 ax5 ax6 bx0 bx1 bx2 bx3 bx4 bx5 bx6 xx0 xx1 xx2 xx3 xx4 xx5 xx6 yx0 yx1 yx2 yx3 yx4 yx5 yx6
  have lA := kA.lt
  have lB := kB.lt
  have lX := kX.lt
  have lY := kY.lt
  clear kA kB kX kY
  go_wp2_with fail
  have hM := Meet_o a b _ _ V2.heap.size V3 (TX.out.under A3.out) (TY.out.under A3.out) A3.out.size
  rw [HM.out.1, HM.out.2, HWS.out] at hM
  refine hM.mono ?_
  rintro e w8 ⟨⟨cr, rfl, htm⟩, hb⟩
  clear hM
  obtain ⟨na8, nc8, sa8, sc8, fz, rfl, -⟩ := htm.inv
  clear ax0 ax1 ax2 ax3 ax4 ax5 ax6 bx0 bx1 bx2 bx3 bx4 bx5 bx6 xx0 xx1 xx2 xx3 xx4 xx5 xx6 yx0 yx1 yx2 yx3 yx4 yx5 yx6 lA lB lX lY
  have A8 := Lib.hid (A3.out.trans (hb.mono A3.out.size))
  have SM := Lib.hid (shp_get (B := V3.heap.size) (E := w8.heap.size) HM.out.1 HM.out.2 (htm.mono fun b hb => ⟨hb.1, hb.2⟩))
  have SJ8 := Lib.hid (SJ3.out.later (Sim.of_below hb))
  have BJ8 := Lib.hid (BJ.out.under hb BJ.out.lt)
  have h8 := hb.size
  clear htm hb
  have kA := BA.out.under A8.out BA.out.lt
  have ax0 := kA.cell 0
  have ax1 := kA.cell 1
  have ax2 := kA.cell 2
  have ax3 := kA.cell 3
  have ax4 := kA.cell 4
  have ax5 := kA.cell 5
  have ax6 := kA.cell 6
  have kB := BB.out.under A8.out BB.out.lt
  have bx0 := kB.cell 0
  have bx1 := kB.cell 1
  have bx2 := kB.cell 2
  have bx3 := kB.cell 3
  have bx4 := kB.cell 4
  have bx5 := kB.cell 5
  have bx6 := kB.cell 6
  have kX := BX.out.under A8.out BX.out.lt
  have xx0 := kX.cell 0
  have xx1 := kX.cell 1
  have xx2 := kX.cell 2
  have xx3 := kX.cell 3
  have xx4 := kX.cell 4
  have xx5 := kX.cell 5
  have xx6 := kX.cell 6
  have kY := BY.out.under A8.out BY.out.lt
  have yx0 := kY.cell 0
  have yx1 := kY.cell 1
  have yx2 := kY.cell 2
  have yx3 := kY.cell 3
  have yx4 := kY.cell 4
  have yx5 := kY.cell 5
  have yx6 := kY.cell 6
  simp at ax0 ax1 ax2 ax3 ax4 ax5 ax6 bx0 bx1 bx2 bx3 bx4 bx5 bx6 xx0 xx1 xx2 xx3 xx4 xx5 xx6 yx0 yx1 yx2 yx3 yx4 yx5 yx6
  have lA := kA.lt
  have lB := kB.lt
  have lX := kX.lt
  have lY := kY.lt
  clear kA kB kX kY
  simp only [tyCells]
  go_upto_region 10 with fail
  clear ax0 ax1 ax2 ax3 ax4 ax5 ax6 bx0 bx1 bx2 bx3 bx4 bx5 bx6 xx0 xx1 xx2 xx3 xx4 xx5 xx6 yx0 yx1 yx2 yx3 yx4 yx5 yx6 lA lB lX lY
  have nb := A8.out.alloc A8.out.size (.cells #[.int .i64 m.kind, .string m.pkg, .int .i64 m.major, .string m.mod, .string m.name, .slice na8 m.names.length nc8, .slice sa8 m.subs.length sc8] 25)
  have nm := Blk.new w8 #[.int .i64 m.kind, .string m.pkg, .int .i64 m.major, .string m.mod, .string m.name, .slice na8 m.names.length nc8, .slice sa8 m.subs.length sc8] 25
  have nj := BJ8.out.alloc (.cells #[.int .i64 m.kind, .string m.pkg, .int .i64 m.major, .string m.mod, .string m.name, .slice na8 m.names.length nc8, .slice sa8 m.subs.length sc8] 25)
  have sm := SM.out.later (Sim.alloc w8 (.cells #[.int .i64 m.kind, .string m.pkg, .int .i64 m.major, .string m.mod, .string m.name, .slice na8 m.names.length nc8, .slice sa8 m.subs.length sc8] 25))
  have sj := SJ8.out.later (Sim.alloc w8 (.cells #[.int .i64 m.kind, .string m.pkg, .int .i64 m.major, .string m.mod, .string m.name, .slice na8 m.names.length nc8, .slice sa8 m.subs.length sc8] 25))
  simp only [tyCells] at sm
  have hz4 : (w8.alloc (.cells #[.int .i64 m.kind, .string m.pkg, .int .i64 m.major, .string m.mod, .string m.name, .slice na8 m.names.length nc8, .slice sa8 m.subs.length sc8] 25)).heap.size = w8.heap.size + 1 := by simp
  generalize hE : w8.heap.size = E2 at nm sm hz4 h8 ⊢
  generalize (w8.alloc (.cells #[.int .i64 m.kind, .string m.pkg, .int .i64 m.major, .string m.mod, .string m.name, .slice na8 m.names.length nc8, .slice sa8 m.subs.length sc8] 25)) = V4 at nb nm nj sm sj hz4 ⊢
  have A4 := Lib.hid nb
  have BM := Lib.hid nm
  have BJ4 := Lib.hid nj
  have SM4 := Lib.hid sm
  have SJ4 := Lib.hid sj
  have HZ4 := Lib.hid hz4
  clear nb nm nj sm sj hz4 SM SJ8 BJ8 A8 hE
  have jx0 := BJ4.out.cell 0
  have jx1 := BJ4.out.cell 1
  have jx2 := BJ4.out.cell 2
  have jx3 := BJ4.out.cell 3
  have jx4 := BJ4.out.cell 4
  have jx5 := BJ4.out.cell 5
  have jx6 := BJ4.out.cell 6
  simp at jx0 jx1 jx2 jx3 jx4 jx5 jx6
  go_wp2_with fail
  refine (spoil_c 32 _ V2.heap.size E1 V4 SJ4.out (by have := HZ3.out; have := HZ4.out; omega)).mono ?_
  rintro e w9 ⟨rfl, hs9, hb9⟩
  clear jx0 jx1 jx2 jx3 jx4 jx5 jx6
  have A9 := Lib.hid (A4.out.trans (hb9.below A4.out.size))
  have nm := hb9.blk BM.out (.inr (by have := HZ3.out; omega))
  have SM9 := Lib.hid (SM4.out.later hs9)
  have s9 := hb9.size
  have mx0 := nm.cell 0
  have mx1 := nm.cell 1
  have mx2 := nm.cell 2
  have mx3 := nm.cell 3
  have mx4 := nm.cell 4
  have mx5 := nm.cell 5
  have mx6 := nm.cell 6
  simp at mx0 mx1 mx2 mx3 mx4 mx5 mx6
  clear nm hs9 hb9
  go_wp2_with fail
  refine (spoil_c 32 _ V3.heap.size E2 w9 SM9.out (by have := HZ4.out; omega)).mono ?_
  rintro e w10 ⟨rfl, hs10, hb10⟩
  clear mx0 mx1 mx2 mx3 mx4 mx5 mx6
  have A10 := Lib.hid (A9.out.trans ((hb10.below (by have := HZ4.out; omega)).mono A3.out.size))
  clear hs10 hb10
  have kA := BA.out.under A10.out BA.out.lt
  have ax0 := kA.cell 0
  have ax1 := kA.cell 1
  have ax2 := kA.cell 2
  have ax3 := kA.cell 3
  have ax4 := kA.cell 4
  have ax5 := kA.cell 5
  have ax6 := kA.cell 6
  have kB := BB.out.under A10.out BB.out.lt
  have bx0 := kB.cell 0
  have bx1 := kB.cell 1
  have bx2 := kB.cell 2
  have bx3 := kB.cell 3
  have bx4 := kB.cell 4
  have bx5 := kB.cell 5
  have bx6 := kB.cell 6
  have kX := BX.out.under A10.out BX.out.lt
  have xx0 := kX.cell 0
  have xx1 := kX.cell 1
  have xx2 := kX.cell 2
  have xx3 := kX.cell 3
  have xx4 := kX.cell 4
  have xx5 := kX.cell 5
  have xx6 := kX.cell 6
  have kY := BY.out.under A10.out BY.out.lt
  have yx0 := kY.cell 0
  have yx1 := kY.cell 1
  have yx2 := kY.cell 2
  have yx3 := kY.cell 3
  have yx4 := kY.cell 4
  have yx5 := kY.cell 5
  have yx6 := kY.cell 6
  simp at ax0 ax1 ax2 ax3 ax4 ax5 ax6 bx0 bx1 bx2 bx3 bx4 bx5 bx6 xx0 xx1 xx2 xx3 xx4 xx5 xx6 yx0 yx1 yx2 yx3 yx4 yx5 yx6
  have lA := kA.lt
  have lB := kB.lt
  have lX := kX.lt
  have lY := kY.lt
  clear kA kB kX kY
  go_wp2_with fail
  refine (Sub_c a b _ _ V2.heap.size w10 (TX.out.under A10.out) (TY.out.under A10.out) A10.out.size).mono ?_
  rintro e w11 ⟨rfl, hb⟩
  clear ax0 ax1 ax2 ax3 ax4 ax5 ax6 bx0 bx1 bx2 bx3 bx4 bx5 bx6 xx0 xx1 xx2 xx3 xx4 xx5 xx6 yx0 yx1 yx2 yx3 yx4 yx5 yx6 lA lB lX lY
  have A11 := Lib.hid (A10.out.trans (hb.mono A10.out.size))
  clear hb
  have kA := BA.out.under A11.out BA.out.lt
  have ax0 := kA.cell 0
  have ax1 := kA.cell 1
  have ax2 := kA.cell 2
  have ax3 := kA.cell 3
  have ax4 := kA.cell 4
  have ax5 := kA.cell 5
  have ax6 := kA.cell 6
  have kB := BB.out.under A11.out BB.out.lt
  have bx0 := kB.cell 0
  have bx1 := kB.cell 1
  have bx2 := kB.cell 2
  have bx3 := kB.cell 3
  have bx4 := kB.cell 4
  have bx5 := kB.cell 5
  have bx6 := kB.cell 6
  have kX := BX.out.under A11.out BX.out.lt
  have xx0 := kX.cell 0
  have xx1 := kX.cell 1
  have xx2 := kX.cell 2
  have xx3 := kX.cell 3
  have xx4 := kX.cell 4
  have xx5 := kX.cell 5
  have xx6 := kX.cell 6
  have kY := BY.out.under A11.out BY.out.lt
  have yx0 := kY.cell 0
  have yx1 := kY.cell 1
  have yx2 := kY.cell 2
  have yx3 := kY.cell 3
  have yx4 := kY.cell 4
  have yx5 := kY.cell 5
  have yx6 := kY.cell 6
  simp at ax0 ax1 ax2 ax3 ax4 ax5 ax6 bx0 bx1 bx2 bx3 bx4 bx5 bx6 xx0 xx1 xx2 xx3 xx4 xx5 xx6 yx0 yx1 yx2 yx3 yx4 yx5 yx6
  have lA := kA.lt
  have lB := kB.lt
  have lX := kX.lt
  have lY := kY.lt
  clear kA kB kX kY
  go_wp2_with fail
  refine (rSame_c a a _ _ V2.heap.size w11 (TX.out.under A11.out) (TA.out.under A11.out) A11.out.size).mono ?_
  rintro e w12 ⟨rfl, hb⟩
  clear ax0 ax1 ax2 ax3 ax4 ax5 ax6 bx0 bx1 bx2 bx3 bx4 bx5 bx6 xx0 xx1 xx2 xx3 xx4 xx5 xx6 yx0 yx1 yx2 yx3 yx4 yx5 yx6 lA lB lX lY
  have A12 := Lib.hid (A11.out.trans (hb.mono A11.out.size))
  clear hb
  have kA := BA.out.under A12.out BA.out.lt
  have ax0 := kA.cell 0
  have ax1 := kA.cell 1
  have ax2 := kA.cell 2
  have ax3 := kA.cell 3
  have ax4 := kA.cell 4
  have ax5 := kA.cell 5
  have ax6 := kA.cell 6
  have kB := BB.out.under A12.out BB.out.lt
  have bx0 := kB.cell 0
  have bx1 := kB.cell 1
  have bx2 := kB.cell 2
  have bx3 := kB.cell 3
  have bx4 := kB.cell 4
  have bx5 := kB.cell 5
  have bx6 := kB.cell 6
  have kX := BX.out.under A12.out BX.out.lt
  have xx0 := kX.cell 0
  have xx1 := kX.cell 1
  have xx2 := kX.cell 2
  have xx3 := kX.cell 3
  have xx4 := kX.cell 4
  have xx5 := kX.cell 5
  have xx6 := kX.cell 6
  have kY := BY.out.under A12.out BY.out.lt
  have yx0 := kY.cell 0
  have yx1 := kY.cell 1
  have yx2 := kY.cell 2
  have yx3 := kY.cell 3
  have yx4 := kY.cell 4
  have yx5 := kY.cell 5
  have yx6 := kY.cell 6
  simp at ax0 ax1 ax2 ax3 ax4 ax5 ax6 bx0 bx1 bx2 bx3 bx4 bx5 bx6 xx0 xx1 xx2 xx3 xx4 xx5 xx6 yx0 yx1 yx2 yx3 yx4 yx5 yx6
  have lA := kA.lt
  have lB := kB.lt
  have lX := kX.lt
  have lY := kY.lt
  clear kA kB kX kY
  rw [(alike_iff a a).2 rfl]
  go_wp2_with fail
  refine (rSame_c b b _ _ V2.heap.size w12 (TY.out.under A12.out) (TB.out.under A12.out) A12.out.size).mono ?_
  rintro e w13 ⟨rfl, hb⟩
  clear ax0 ax1 ax2 ax3 ax4 ax5 ax6 bx0 bx1 bx2 bx3 bx4 bx5 bx6 xx0 xx1 xx2 xx3 xx4 xx5 xx6 yx0 yx1 yx2 yx3 yx4 yx5 yx6 lA lB lX lY
  have A13 := Lib.hid (A12.out.trans (hb.mono A12.out.size))
  clear hb
  rw [(alike_iff b b).2 rfl]
  go_wp2_with fail
  go_ret
  exact ⟨rfl, acc0 HBW.out HBW.out.size A13.out⟩
end Go.Proofs.Ytalpmjmifcofeaa
