/- The statement SubBounds: for any two types the law returns true and leaves its arguments as they were; no condition but the row's own (no ring among the inputs). -/
import Derived.Test.YtalpmjmifcofeaaBoundL
import Derived.Test.YtalpmjmifcofeaaBoundR
import Derived.Test.YtalpmjmifcofeaaSubSub
import Derived.Test.YtalpmjmifcofeaaMemM
import Derived.Test.YtalpmjmifcofeaaBoundC
import Derived.Deep.Cut
import Derived.Test.YtalpmjmifcofeaaLubLaw
import Derived.Test.YtalpmjmifcofeaaRefKindB
import Derived.Test.YtalpmjmifcofeaaRRows
import Derived.Test.YtalpmjmifcofeaaRBnd
import Derived.Test.YtalpmjmifcofeaaOrdLaw
import Derived.Test.YtalpmjmifcofeaaRefSame
import Derived.Deep.DeepCutAuto
import Derived.Test.YtalpmjmifcofeaaRows
import Derived.Test.YtalpmjmifcofeaaOpen
namespace Go.Proofs.Ytalpmjmifcofeaa
open Go.RowKit
set_option linter.unusedSimpArgs false
set_option linter.unusedVariables false
set_option maxRecDepth 100000 in
set_option maxHeartbeats 4000000 in
theorem whole_yes (a b t : Ty) (up : Bool) (cs cs' : Array Value) (B : Nat) (w : World) (ha : TyC w B a cs) (hb : TyC w B b cs') (hB : B ≤ w.heap.size) (pa : PlainB a = true) (pb : PlainB b = true) (hbd : BoundAt a b up (some t)) (hm : mayT t = true) :
    Calls Try.prog 38 #[.agg cs, .agg cs', .bool up] w fun e w' => (∃ cs'', e = .returned (.tuple #[.agg cs'', .bool true]) ∧ TyM w' (Fresh w w') t cs'') ∧ Below w.heap.size w w' := by
  obtain ⟨na, nc, sa, sc, f, rfl, -⟩ := ha.inv
  obtain ⟨na', nc', sa', sc', f', rfl, -⟩ := hb.inv
  have HA := Lib.hid ha
  have HB := Lib.hid hb
  have PA := Lib.hid pa
  have PB := Lib.hid pb
  have HBD := Lib.hid hbd
  have HM := Lib.hid hm
  clear ha hb pa pb hbd hm
  go_enter Try.func38, Try.ntmps38
  simp only [tyCells]
  go_wp2_with fail
  have h3 := boxes3 w #[.int .i64 a.kind, .string a.pkg, .int .i64 a.major, .string a.mod, .string a.name, .slice na a.names.length nc, .slice sa a.subs.length sc] #[.int .i64 b.kind, .string b.pkg, .int .i64 b.major, .string b.mod, .string b.name, .slice na' b.names.length nc', .slice sa' b.subs.length sc'] #[.int .i64 0, .string { data := #[] }, .int .i64 0, .string { data := #[] }, .string { data := #[] }, .slice none 0 0, .slice none 0 0] 25
  generalize (((w.alloc (.cells #[.int .i64 a.kind, .string a.pkg, .int .i64 a.major, .string a.mod, .string a.name, .slice na a.names.length nc, .slice sa a.subs.length sc] 25)).alloc (.cells #[.int .i64 b.kind, .string b.pkg, .int .i64 b.major, .string b.mod, .string b.name, .slice na' b.names.length nc', .slice sa' b.subs.length sc'] 25)).alloc (.cells #[.int .i64 0, .string { data := #[] }, .int .i64 0, .string { data := #[] }, .string { data := #[] }, .slice none 0 0, .slice none 0 0] 25)) = W at h3 ⊢
  obtain ⟨x0, x1, x2, xs, xb⟩ := h3
  have X0 := Lib.hid x0
  have X1 := Lib.hid x1
  have X2 := Lib.hid x2
  have XB := Lib.hid xb
  have hsz := xb.size
  have hA := HA.out.under (xb.mono hB)
  have hB' := HB.out.under (xb.mono hB)
  simp only [tyCells] at hA hB'
  have HA1 := Lib.hid hA
  have HB1 := Lib.hid hB'
  have hBW : B ≤ W.heap.size := Nat.le_trans hB hsz
  refine (Plain_c a _ B W hA hBW).mono ?_
  rintro e w1 ⟨rfl, hb1⟩
  have y1 := x1.under hb1 x1.lt
  have b0 := y1.cell 0
  have b1 := y1.cell 1
  have b2 := y1.cell 2
  have b3 := y1.cell 3
  have b4 := y1.cell 4
  have b5 := y1.cell 5
  have b6 := y1.cell 6
  simp at b0 b1 b2 b3 b4 b5 b6
  have Y0 := Lib.hid (x0.under hb1 x0.lt)
  have Y1 := Lib.hid y1
  have Y2 := Lib.hid (x2.under hb1 x2.lt)
  have B1 := Lib.hid hb1
  have s1 := hb1.size
  rw [PA.out]
  clear x0 x1 x2 xb hA hB' y1 hb1
  go_wp2_with fail
  refine (Plain_c b _ B w1 (HB1.out.under (B1.out.mono hBW)) (by omega)).mono ?_
  rintro e w2 ⟨rfl, hb2⟩
  have y0 := Y0.out.under hb2 Y0.out.lt
  have y1 := Y1.out.under hb2 Y1.out.lt
  clear b0 b1 b2 b3 b4 b5 b6
  have b0 := y1.cell 0
  have b1 := y1.cell 1
  have b2 := y1.cell 2
  have b3 := y1.cell 3
  have b4 := y1.cell 4
  have b5 := y1.cell 5
  have b6 := y1.cell 6
  simp at b0 b1 b2 b3 b4 b5 b6
  have a0 := y0.cell 0
  have a1 := y0.cell 1
  have a2 := y0.cell 2
  have a3 := y0.cell 3
  have a4 := y0.cell 4
  have a5 := y0.cell 5
  have a6 := y0.cell 6
  simp at a0 a1 a2 a3 a4 a5 a6
  have Z2 := Lib.hid (Y2.out.under hb2 Y2.out.lt)
  have B2 := Lib.hid hb2
  have s2 := hb2.size
  rw [PB.out]
  clear y0 y1 hb2
  go_wp2_with fail
  have B12 := Lib.hid (B1.out.trans (B2.out.mono s1))
  refine (HBD.out _ _ B w2 (HA1.out.under (B12.out.mono hBW)) (HB1.out.under (B12.out.mono hBW)) (by omega)).mono ?_
  rintro e w3 ⟨⟨t', cs2, rfl, ht, htm⟩, hb3⟩
  obtain rfl := ht t rfl
  obtain ⟨na2, nc2, sa2, sc2, f2, rfl, -⟩ := htm.inv
  have HT := Lib.hid htm
  have B3 := Lib.hid hb3
  have s3 := hb3.size
  simp only [tyCells, Option.isSome_some]
  clear htm hb3 a0 a1 a2 a3 a4 a5 a6 b0 b1 b2 b3 b4 b5 b6
  go_wp2_with fail
  have hTC : TyC w3 w3.heap.size t' #[.int .i64 t'.kind, .string t'.pkg, .int .i64 t'.major, .string t'.mod, .string t'.name, .slice na2 t'.names.length nc2, .slice sa2 t'.subs.length sc2] := (HT.out.mono fun b hb => by
    rcases hb with hb | hb
    · show b < w3.heap.size
      omega
    · exact hb.2).toC
  have hTB := Blk.new w3 #[.int .i64 t'.kind, .string t'.pkg, .int .i64 t'.major, .string t'.mod, .string t'.name, .slice na2 t'.names.length nc2, .slice sa2 t'.subs.length sc2] 25
  have hT4 := hTC.alloc (Nat.le_refl _) (.cells #[.int .i64 t'.kind, .string t'.pkg, .int .i64 t'.major, .string t'.mod, .string t'.name, .slice na2 t'.names.length nc2, .slice sa2 t'.subs.length sc2] 25)
  have hZ4 := (Z2.out.under B3.out Z2.out.lt).alloc (.cells #[.int .i64 t'.kind, .string t'.pkg, .int .i64 t'.major, .string t'.mod, .string t'.name, .slice na2 t'.names.length nc2, .slice sa2 t'.subs.length sc2] 25)
  have hB4 : Below w2.heap.size w2 (w3.alloc (.cells #[.int .i64 t'.kind, .string t'.pkg, .int .i64 t'.major, .string t'.mod, .string t'.name, .slice na2 t'.names.length nc2, .slice sa2 t'.subs.length sc2] 25)) := B3.out.alloc s3 _
  have hs4 : (w3.alloc (.cells #[.int .i64 t'.kind, .string t'.pkg, .int .i64 t'.major, .string t'.mod, .string t'.name, .slice na2 t'.names.length nc2, .slice sa2 t'.subs.length sc2] 25)).heap.size = w3.heap.size + 1 := by simp
  generalize hy : w3.heap.size = yb at hTB hT4 hs4 ⊢
  generalize (w3.alloc (.cells #[.int .i64 t'.kind, .string t'.pkg, .int .i64 t'.major, .string t'.mod, .string t'.name, .slice na2 t'.names.length nc2, .slice sa2 t'.subs.length sc2] 25)) = W4 at hTB hT4 hZ4 hB4 hs4 ⊢
  have HT4 := Lib.hid hT4
  have HTB := Lib.hid hTB
  have HZ4 := Lib.hid hZ4
  have HB4 := Lib.hid hB4
  clear hTC hTB hT4 hZ4 hB4
  refine (May_c t' _ yb W4 HT4.out (by omega)).mono ?_
  rintro e w5 ⟨rfl, hb5⟩
  have s5 := hb5.size
  have y1 := HTB.out.under hb5 HTB.out.lt
  have b0 := y1.cell 0
  have b1 := y1.cell 1
  have b2 := y1.cell 2
  have b3 := y1.cell 3
  have b4 := y1.cell 4
  have b5 := y1.cell 5
  have b6 := y1.cell 6
  simp at b0 b1 b2 b3 b4 b5 b6
  have B5 := Lib.hid hb5
  rw [HM.out]
  clear y1 hb5
  go_wp2_with fail
  refine (copied_c t' _ yb w5 (HT4.out.under (B5.out.mono (by omega))) (by omega) HM.out).mono ?_
  rintro e w6 ⟨⟨cs3, rfl, ht6⟩, hb6⟩
  obtain ⟨na3, nc3, sa3, sc3, f3, rfl, -⟩ := ht6.inv
  have HT6 := Lib.hid ht6
  have s6 := hb6.size
  have zb := (HZ4.out.under B5.out HZ4.out.lt).under hb6 (by have := HZ4.out.lt; omega)
  have ZB := Lib.hid zb
  have B6 := Lib.hid hb6
  have z0 := zb.cell 0
  have f0 := zb.free 0
  have z1 := zb.cell 1
  have f1 := zb.free 1
  have z2 := zb.cell 2
  have f2 := zb.free 2
  have z3 := zb.cell 3
  have f3 := zb.free 3
  have z4 := zb.cell 4
  have f4 := zb.free 4
  have z5 := zb.cell 5
  have f5 := zb.free 5
  have z6 := zb.cell 6
  have f6 := zb.free 6
  simp at z0 z1 z2 z3 z4 z5 z6
  simp only [tyCells]
  clear ht6 hb6 zb b0 b1 b2 b3 b4 b5 b6
  go_wp2_with fail
  have hfin : Below w.heap.size w (((((((w6.setCell ⟨w.heap.size + 1 + 1, 0, none⟩ (.int .i64 t'.kind)).setCell ⟨w.heap.size + 1 + 1, 1, none⟩ (.string t'.pkg)).setCell ⟨w.heap.size + 1 + 1, 2, none⟩ (.int .i64 t'.major)).setCell ⟨w.heap.size + 1 + 1, 3, none⟩ (.string t'.mod)).setCell ⟨w.heap.size + 1 + 1, 4, none⟩ (.string t'.name)).setCell ⟨w.heap.size + 1 + 1, 5, none⟩ (.slice na3 t'.names.length nc3)).setCell ⟨w.heap.size + 1 + 1, 6, none⟩ (.slice sa3 t'.subs.length sc3)) := put7_bel (.int .i64 t'.kind) (.string t'.pkg) (.int .i64 t'.major) (.string t'.mod) (.string t'.name) (.slice na3 t'.names.length nc3) (.slice sa3 t'.subs.length sc3) ((((XB.out.trans (B1.out.mono (by omega))).trans (B2.out.mono (by omega))).trans (HB4.out.mono (by omega))).trans ((B5.out.mono (by omega)).trans (B6.out.mono (by omega)))) (by omega)
  have hblk := put7_full (.int .i64 t'.kind) (.string t'.pkg) (.int .i64 t'.major) (.string t'.mod) (.string t'.name) (.slice na3 t'.names.length nc3) (.slice sa3 t'.subs.length sc3) ZB.out
  have hty := ty_put7 (B := 0) (g := w.heap.size + 1 + 1) (.int .i64 t'.kind) (.string t'.pkg) (.int .i64 t'.major) (.string t'.mod) (.string t'.name) (.slice na3 t'.names.length nc3) (.slice sa3 t'.subs.length sc3) (HT6.out.mono fun b hb => .inr hb) (Nat.zero_le _) (by omega)
  generalize (((((((w6.setCell ⟨w.heap.size + 1 + 1, 0, none⟩ (.int .i64 t'.kind)).setCell ⟨w.heap.size + 1 + 1, 1, none⟩ (.string t'.pkg)).setCell ⟨w.heap.size + 1 + 1, 2, none⟩ (.int .i64 t'.major)).setCell ⟨w.heap.size + 1 + 1, 3, none⟩ (.string t'.mod)).setCell ⟨w.heap.size + 1 + 1, 4, none⟩ (.string t'.name)).setCell ⟨w.heap.size + 1 + 1, 5, none⟩ (.slice na3 t'.names.length nc3)).setCell ⟨w.heap.size + 1 + 1, 6, none⟩ (.slice sa3 t'.subs.length sc3)) = Wz at hfin hblk hty ⊢
  have q0 := hblk.cell 0
  have q1 := hblk.cell 1
  have q2 := hblk.cell 2
  have q3 := hblk.cell 3
  have q4 := hblk.cell 4
  have q5 := hblk.cell 5
  have q6 := hblk.cell 6
  simp at q0 q1 q2 q3 q4 q5 q6
  refine bodyPost_ret (by simp [results, Try.results38, go_sem, q0, q1, q2, q3, q4, q5, q6]; try rfl) rfl ?_
  exact ⟨⟨_, rfl, hty.mono fun b hb => by
    rcases hb with hb | hb
    · omega
    · exact ⟨by have := hb.1; omega, hb.2⟩⟩, hfin⟩
set_option maxRecDepth 100000 in
set_option maxHeartbeats 4000000 in
theorem join_yes (a b t : Ty) (cs cs' : Array Value) (B : Nat) (w : World) (ha : TyC w B a cs) (hb : TyC w B b cs') (hB : B ≤ w.heap.size) (pa : PlainB a = true) (pb : PlainB b = true) (hbd : BoundAt a b true (some t)) (hm : mayT t = true) :
    Calls Try.prog 16 #[.agg cs, .agg cs'] w fun e w' => (∃ cs'', e = .returned (.tuple #[.agg cs'', .bool true]) ∧ TyM w' (Fresh w w') t cs'') ∧ Below w.heap.size w w' := by
  obtain ⟨na, nc, sa, sc, f, rfl, -⟩ := ha.inv
  obtain ⟨na', nc', sa', sc', f', rfl, -⟩ := hb.inv
  have HA := Lib.hid ha
  have HB := Lib.hid hb
  have PA := Lib.hid pa
  have PB := Lib.hid pb
  have HBD := Lib.hid hbd
  have HM := Lib.hid hm
  clear ha hb pa pb hbd hm
  go_enter Try.func16, Try.ntmps16
  simp only [tyCells]
  go_wp2_with fail
  have h3 := boxes3 w #[.int .i64 a.kind, .string a.pkg, .int .i64 a.major, .string a.mod, .string a.name, .slice na a.names.length nc, .slice sa a.subs.length sc] #[.int .i64 b.kind, .string b.pkg, .int .i64 b.major, .string b.mod, .string b.name, .slice na' b.names.length nc', .slice sa' b.subs.length sc'] #[.int .i64 0, .string { data := #[] }, .int .i64 0, .string { data := #[] }, .string { data := #[] }, .slice none 0 0, .slice none 0 0] 25
  generalize (((w.alloc (.cells #[.int .i64 a.kind, .string a.pkg, .int .i64 a.major, .string a.mod, .string a.name, .slice na a.names.length nc, .slice sa a.subs.length sc] 25)).alloc (.cells #[.int .i64 b.kind, .string b.pkg, .int .i64 b.major, .string b.mod, .string b.name, .slice na' b.names.length nc', .slice sa' b.subs.length sc'] 25)).alloc (.cells #[.int .i64 0, .string { data := #[] }, .int .i64 0, .string { data := #[] }, .string { data := #[] }, .slice none 0 0, .slice none 0 0] 25)) = W at h3 ⊢
  obtain ⟨x0, x1, x2, xs, xb⟩ := h3
  have X2 := Lib.hid x2
  have XB := Lib.hid xb
  have hsz := xb.size
  have hA := HA.out.under (xb.mono hB)
  have hB' := HB.out.under (xb.mono hB)
  simp only [tyCells] at hA hB'
  have hBW : B ≤ W.heap.size := Nat.le_trans hB hsz
  refine (whole_yes a b t true _ _ B W hA hB' hBW PA.out PB.out HBD.out HM.out).mono ?_
  rintro e w1 ⟨⟨cs3, rfl, ht6⟩, hb1⟩
  obtain ⟨na3, nc3, sa3, sc3, f3, rfl, -⟩ := ht6.inv
  have HT6 := Lib.hid ht6
  have s1 := hb1.size
  have zb := x2.under hb1 x2.lt
  have ZB := Lib.hid zb
  have B1 := Lib.hid hb1
  have z0 := zb.cell 0
  have f0 := zb.free 0
  have z1 := zb.cell 1
  have f1 := zb.free 1
  have z2 := zb.cell 2
  have f2 := zb.free 2
  have z3 := zb.cell 3
  have f3 := zb.free 3
  have z4 := zb.cell 4
  have f4 := zb.free 4
  have z5 := zb.cell 5
  have f5 := zb.free 5
  have z6 := zb.cell 6
  have f6 := zb.free 6
  simp at z0 z1 z2 z3 z4 z5 z6
  simp only [tyCells]
  clear ht6 hb1 zb x0 x1 x2 xb hA hB'
  go_wp2_with fail
  have hfin : Below w.heap.size w (((((((w1.setCell ⟨w.heap.size + 1 + 1, 0, none⟩ (.int .i64 t.kind)).setCell ⟨w.heap.size + 1 + 1, 1, none⟩ (.string t.pkg)).setCell ⟨w.heap.size + 1 + 1, 2, none⟩ (.int .i64 t.major)).setCell ⟨w.heap.size + 1 + 1, 3, none⟩ (.string t.mod)).setCell ⟨w.heap.size + 1 + 1, 4, none⟩ (.string t.name)).setCell ⟨w.heap.size + 1 + 1, 5, none⟩ (.slice na3 t.names.length nc3)).setCell ⟨w.heap.size + 1 + 1, 6, none⟩ (.slice sa3 t.subs.length sc3)) := put7_bel (.int .i64 t.kind) (.string t.pkg) (.int .i64 t.major) (.string t.mod) (.string t.name) (.slice na3 t.names.length nc3) (.slice sa3 t.subs.length sc3) (XB.out.trans (B1.out.mono (by omega))) (by omega)
  have hblk := put7_full (.int .i64 t.kind) (.string t.pkg) (.int .i64 t.major) (.string t.mod) (.string t.name) (.slice na3 t.names.length nc3) (.slice sa3 t.subs.length sc3) ZB.out
  have hty := ty_put7 (B := 0) (g := w.heap.size + 1 + 1) (.int .i64 t.kind) (.string t.pkg) (.int .i64 t.major) (.string t.mod) (.string t.name) (.slice na3 t.names.length nc3) (.slice sa3 t.subs.length sc3) (HT6.out.mono fun b hb => .inr hb) (Nat.zero_le _) (by omega)
  generalize (((((((w1.setCell ⟨w.heap.size + 1 + 1, 0, none⟩ (.int .i64 t.kind)).setCell ⟨w.heap.size + 1 + 1, 1, none⟩ (.string t.pkg)).setCell ⟨w.heap.size + 1 + 1, 2, none⟩ (.int .i64 t.major)).setCell ⟨w.heap.size + 1 + 1, 3, none⟩ (.string t.mod)).setCell ⟨w.heap.size + 1 + 1, 4, none⟩ (.string t.name)).setCell ⟨w.heap.size + 1 + 1, 5, none⟩ (.slice na3 t.names.length nc3)).setCell ⟨w.heap.size + 1 + 1, 6, none⟩ (.slice sa3 t.subs.length sc3)) = Wz at hfin hblk hty ⊢
  have q0 := hblk.cell 0
  have q1 := hblk.cell 1
  have q2 := hblk.cell 2
  have q3 := hblk.cell 3
  have q4 := hblk.cell 4
  have q5 := hblk.cell 5
  have q6 := hblk.cell 6
  simp at q0 q1 q2 q3 q4 q5 q6
  refine bodyPost_ret (by simp [results, Try.results16, go_sem, q0, q1, q2, q3, q4, q5, q6]; try rfl) rfl ?_
  exact ⟨⟨_, rfl, hty.mono fun b hb => by
    rcases hb with hb | hb
    · omega
    · exact ⟨by have := hb.1; omega, hb.2⟩⟩, hfin⟩
end Go.Proofs.Ytalpmjmifcofeaa
namespace Go.Proofs.Ytalpmjmifcofeaa
def tInt : Ty := .mk 1 { data := #[] } 0 { data := #[] } { data := #[] } [] []
def tText : Ty := .mk 2 { data := #[] } 0 { data := #[] } { data := #[] } [] []
def tA : Ty := .mk 5 { data := #[] } 0 { data := #[] } { data := #[] } [{ data := #[97] }, { data := #[98] }] [tInt, tText]
def tB : Ty := .mk 5 { data := #[] } 0 { data := #[] } { data := #[] } [{ data := #[97] }] [tInt]
theorem sub_ab : SubB tA tB = true := by decide +kernel
theorem sub_ba : SubB tB tA = false := by decide +kernel
theorem sub_00 : SubB zeroTy zeroTy = false := by decide +kernel
theorem plain_a : PlainB tA = true := by decide +kernel
theorem plain_b : PlainB tB = true := by decide +kernel
theorem may_a : mayT tA = true := by decide +kernel
theorem may_b : mayT tB = true := by decide +kernel
theorem join_ab : bothL leafR tB tA.names tA.subs = [({ data := #[97] }, tInt)] := by
  have h1 : memB ({ data := #[97] } : ByteArray) tB.names = true := by decide +kernel
  have h2 : memB ({ data := #[98] } : ByteArray) tB.names = false := by decide +kernel
  have h3 : ofT tB ({ data := #[97] } : ByteArray) = tInt := by rw [ofT, if_pos h1]; rfl
  have h4 : leafR tInt tInt = some tInt := if_pos (by decide +kernel)
  show (if memB ({ data := #[97] } : ByteArray) tB.names then _ else _) ++ ((if memB ({ data := #[98] } : ByteArray) tB.names then _ else _) ++ []) = _
  rw [h1, h2, h3, h4]
  rfl
end Go.Proofs.Ytalpmjmifcofeaa
namespace Go.Proofs.Ytalpmjmifcofeaa
open Go.RowKit
set_option linter.unusedSimpArgs false
set_option linter.unusedVariables false
theorem rows_a : RowsOk tA := ⟨by decide +kernel, by decide +kernel, by decide +kernel⟩
theorem rows_b : RowsOk tB := ⟨by decide +kernel, by decide +kernel, by decide +kernel⟩
theorem leaf_at (up : Bool) : ∀ x y, x ∈ tA.subs → y ∈ tB.subs → BoundAt x y up (leafR x y) := by
  intro x y hx hy
  have hx' : x = tInt ∨ x = tText := by simpa [tA, Ty.subs] using hx
  have hy' : y = tInt := by simpa [tB, Ty.subs] using hy
  subst hy'
  rcases hx' with rfl | rfl
  · exact bound_leaf tInt tInt up rfl (by decide) (by decide) (by decide) (by decide)
  · have : leafR tText tInt = none := if_neg (by decide +kernel)
    rw [this]
    exact bound_diff tText tInt up (by decide)
theorem bound_ab : BoundAt tA tB true (some tB) := by
  have h := bound_rec leafR tA tB rfl rfl rows_a rows_b (by decide +kernel) (leaf_at true)
  have e : joinR leafR tA tB = tB := by
    rw [joinR, join_ab]
    rfl
  rwa [e] at h
theorem join_c (cs cs' : Array Value) (B : Nat) (w : World) (ha : TyC w B tA cs) (hb : TyC w B tB cs') (hB : B ≤ w.heap.size) :
    Calls Try.prog 16 #[.agg cs, .agg cs'] w fun e w' => (∃ cs'', e = .returned (.tuple #[.agg cs'', .bool true]) ∧ TyM w' (Fresh w w') tB cs'') ∧ Below w.heap.size w w' :=
  join_yes tA tB tB cs cs' B w ha hb hB plain_a plain_b bound_ab may_b
end Go.Proofs.Ytalpmjmifcofeaa
namespace Go.Proofs.Ytalpmjmifcofeaa
open Go.RowKit
set_option linter.unusedSimpArgs false
set_option linter.unusedVariables false
theorem boxes6 (w : World) (c0 c1 c2 c3 c4 c5 : Array Value) (T0 T1 T2 T3 T4 T5 : TypeId) : Blk ((((((w.alloc (.cells c0 T0)).alloc (.cells c1 T1)).alloc (.cells c2 T2)).alloc (.cells c3 T3)).alloc (.cells c4 T4)).alloc (.cells c5 T5)) (w.heap.size) c0 T0 ∧ Blk ((((((w.alloc (.cells c0 T0)).alloc (.cells c1 T1)).alloc (.cells c2 T2)).alloc (.cells c3 T3)).alloc (.cells c4 T4)).alloc (.cells c5 T5)) (w.heap.size + 1) c1 T1 ∧ Blk ((((((w.alloc (.cells c0 T0)).alloc (.cells c1 T1)).alloc (.cells c2 T2)).alloc (.cells c3 T3)).alloc (.cells c4 T4)).alloc (.cells c5 T5)) (w.heap.size + 1 + 1) c2 T2 ∧ Blk ((((((w.alloc (.cells c0 T0)).alloc (.cells c1 T1)).alloc (.cells c2 T2)).alloc (.cells c3 T3)).alloc (.cells c4 T4)).alloc (.cells c5 T5)) (w.heap.size + 1 + 1 + 1) c3 T3 ∧ Blk ((((((w.alloc (.cells c0 T0)).alloc (.cells c1 T1)).alloc (.cells c2 T2)).alloc (.cells c3 T3)).alloc (.cells c4 T4)).alloc (.cells c5 T5)) (w.heap.size + 1 + 1 + 1 + 1) c4 T4 ∧ Blk ((((((w.alloc (.cells c0 T0)).alloc (.cells c1 T1)).alloc (.cells c2 T2)).alloc (.cells c3 T3)).alloc (.cells c4 T4)).alloc (.cells c5 T5)) (w.heap.size + 1 + 1 + 1 + 1 + 1) c5 T5 ∧ ((((((w.alloc (.cells c0 T0)).alloc (.cells c1 T1)).alloc (.cells c2 T2)).alloc (.cells c3 T3)).alloc (.cells c4 T4)).alloc (.cells c5 T5)).heap.size = w.heap.size + 6 ∧ Below w.heap.size w ((((((w.alloc (.cells c0 T0)).alloc (.cells c1 T1)).alloc (.cells c2 T2)).alloc (.cells c3 T3)).alloc (.cells c4 T4)).alloc (.cells c5 T5)) := by
  have e1 : (w.alloc (.cells c0 T0)).heap.size = w.heap.size + 1 := by simp
  have e2 : ((w.alloc (.cells c0 T0)).alloc (.cells c1 T1)).heap.size = w.heap.size + 1 + 1 := by simp
  have e3 : (((w.alloc (.cells c0 T0)).alloc (.cells c1 T1)).alloc (.cells c2 T2)).heap.size = w.heap.size + 1 + 1 + 1 := by simp
  have e4 : ((((w.alloc (.cells c0 T0)).alloc (.cells c1 T1)).alloc (.cells c2 T2)).alloc (.cells c3 T3)).heap.size = w.heap.size + 1 + 1 + 1 + 1 := by simp
  have e5 : (((((w.alloc (.cells c0 T0)).alloc (.cells c1 T1)).alloc (.cells c2 T2)).alloc (.cells c3 T3)).alloc (.cells c4 T4)).heap.size = w.heap.size + 1 + 1 + 1 + 1 + 1 := by simp
  have b0 := Blk.new w c0 T0
  have b1 := Blk.new (w.alloc (.cells c0 T0)) c1 T1
  rw [e1] at b1
  have b2 := Blk.new ((w.alloc (.cells c0 T0)).alloc (.cells c1 T1)) c2 T2
  rw [e2] at b2
  have b3 := Blk.new (((w.alloc (.cells c0 T0)).alloc (.cells c1 T1)).alloc (.cells c2 T2)) c3 T3
  rw [e3] at b3
  have b4 := Blk.new ((((w.alloc (.cells c0 T0)).alloc (.cells c1 T1)).alloc (.cells c2 T2)).alloc (.cells c3 T3)) c4 T4
  rw [e4] at b4
  have b5 := Blk.new (((((w.alloc (.cells c0 T0)).alloc (.cells c1 T1)).alloc (.cells c2 T2)).alloc (.cells c3 T3)).alloc (.cells c4 T4)) c5 T5
  rw [e5] at b5
  exact ⟨(((((b0.alloc _).alloc _).alloc _).alloc _).alloc _), ((((b1.alloc _).alloc _).alloc _).alloc _), (((b2.alloc _).alloc _).alloc _), ((b3.alloc _).alloc _), (b4.alloc _), b5, by simp, (((((((Below.refl _ w).alloc (by simp; try omega) _).alloc (by simp; try omega) _).alloc (by simp; try omega) _).alloc (by simp; try omega) _).alloc (by simp; try omega) _).alloc (by simp; try omega) _)⟩
theorem ty_int (w : World) (B : Nat) : TyC w B tInt #[.int .i64 1, .string { data := #[] }, .int .i64 0, .string { data := #[] }, .string { data := #[] }, .slice none 0 0, .slice none 0 0] :=
  .mk tInt none 0 none 0 (fun _ => #[]) ⟨by decide, by decide, by decide, by decide, by decide, by decide, (by intro s h; cases h), by decide⟩ (.inl rfl) (.inl rfl) (Nat.le_refl _) (Nat.le_refl _) (fun i h => absurd h (by show ¬ i < 0; omega))
theorem ty_text (w : World) (B : Nat) : TyC w B tText #[.int .i64 2, .string { data := #[] }, .int .i64 0, .string { data := #[] }, .string { data := #[] }, .slice none 0 0, .slice none 0 0] :=
  .mk tText none 0 none 0 (fun _ => #[]) ⟨by decide, by decide, by decide, by decide, by decide, by decide, (by intro s h; cases h), by decide⟩ (.inl rfl) (.inl rfl) (Nat.le_refl _) (Nat.le_refl _) (fun i h => absurd h (by show ¬ i < 0; omega))
theorem ty_a {w : World} {b1 b2 B : Nat} (h1 : Blk w b1 #[.string { data := #[97] }, .string { data := #[98] }] 9) (h2 : Blk w b2 #[.int .i64 1, .string { data := #[] }, .int .i64 0, .string { data := #[] }, .string { data := #[] }, .slice none 0 0, .slice none 0 0, .int .i64 2, .string { data := #[] }, .int .i64 0, .string { data := #[] }, .string { data := #[] }, .slice none 0 0, .slice none 0 0] 25) (l1 : b1 < B) (l2 : b2 < B) :
    TyC w B tA #[.int .i64 5, .string { data := #[] }, .int .i64 0, .string { data := #[] }, .string { data := #[] }, .slice (some ⟨b1, 0, none⟩) 2 2, .slice (some ⟨b2, 0, none⟩) 2 2] := by
  refine .mk tA (some ⟨b1, 0, none⟩) 2 (some ⟨b2, 0, none⟩) 2 (fun i => if i = 0 then #[.int .i64 1, .string { data := #[] }, .int .i64 0, .string { data := #[] }, .string { data := #[] }, .slice none 0 0, .slice none 0 0] else #[.int .i64 2, .string { data := #[] }, .int .i64 0, .string { data := #[] }, .string { data := #[] }, .slice none 0 0, .slice none 0 0]) ⟨by decide, by decide, by decide, by decide, by decide, by decide, ?_, by decide⟩ (.inr ⟨b1, 0, rfl, l1, ?_⟩) (.inr ⟨b2, 0, rfl, l2, ?_⟩) (by decide) (by decide) ?_
  · intro s hs
    have : s = { data := #[97] } ∨ s = { data := #[98] } := by simpa [tA, Ty.names] using hs
    rcases this with rfl | rfl <;> decide
  · intro i hi
    have hi : i < 2 := hi
    rw [h1.cell, Nat.zero_add]
    match i, hi with
    | 0, _ => rfl
    | 1, _ => rfl
  · intro i hi j hj
    have hi : i < 2 := hi
    rw [h2.cell, Nat.zero_add]
    match i, hi with
    | 0, _ =>
      have hj : j < 7 := hj
      match j, hj with
      | 0, _ => rfl
      | 1, _ => rfl
      | 2, _ => rfl
      | 3, _ => rfl
      | 4, _ => rfl
      | 5, _ => rfl
      | 6, _ => rfl
    | 1, _ =>
      have hj : j < 7 := hj
      match j, hj with
      | 0, _ => rfl
      | 1, _ => rfl
      | 2, _ => rfl
      | 3, _ => rfl
      | 4, _ => rfl
      | 5, _ => rfl
      | 6, _ => rfl
  · intro i hi
    have hi : i < 2 := hi
    match i, hi with
    | 0, _ => exact ty_int w B
    | 1, _ => exact ty_text w B
theorem ty_b {w : World} {b1 b2 B : Nat} (h1 : Blk w b1 #[.string { data := #[97] }] 9) (h2 : Blk w b2 #[.int .i64 1, .string { data := #[] }, .int .i64 0, .string { data := #[] }, .string { data := #[] }, .slice none 0 0, .slice none 0 0] 25) (l1 : b1 < B) (l2 : b2 < B) :
    TyC w B tB #[.int .i64 5, .string { data := #[] }, .int .i64 0, .string { data := #[] }, .string { data := #[] }, .slice (some ⟨b1, 0, none⟩) 1 1, .slice (some ⟨b2, 0, none⟩) 1 1] := by
  refine .mk tB (some ⟨b1, 0, none⟩) 1 (some ⟨b2, 0, none⟩) 1 (fun _ => #[.int .i64 1, .string { data := #[] }, .int .i64 0, .string { data := #[] }, .string { data := #[] }, .slice none 0 0, .slice none 0 0]) ⟨by decide, by decide, by decide, by decide, by decide, by decide, ?_, by decide⟩ (.inr ⟨b1, 0, rfl, l1, ?_⟩) (.inr ⟨b2, 0, rfl, l2, ?_⟩) (by decide) (by decide) ?_
  · intro s hs
    have : s = { data := #[97] } := by simpa [tB, Ty.names] using hs
    subst this
    decide
  · intro i hi
    have hi : i < 1 := hi
    rw [h1.cell, Nat.zero_add]
    match i, hi with
    | 0, _ => rfl
  · intro i hi j hj
    have hi : i < 1 := hi
    rw [h2.cell, Nat.zero_add]
    match i, hi with
    | 0, _ =>
      have hj : j < 7 := hj
      match j, hj with
      | 0, _ => rfl
      | 1, _ => rfl
      | 2, _ => rfl
      | 3, _ => rfl
      | 4, _ => rfl
      | 5, _ => rfl
      | 6, _ => rfl
  · intro i hi
    have hi : i < 1 := hi
    match i, hi with
    | 0, _ => exact ty_int w B
set_option maxRecDepth 100000 in
set_option maxHeartbeats 4000000 in
theorem up_c (w : World) : Calls Try.prog 10 #[] w fun e w' => e = .returned (.bool true) ∧ Below w.heap.size w w' := by
  go_enter Try.func10, Try.ntmps10
  go_wp2_with fail
  have h6 := boxes6 w #[.string { data := #[97] }, .string { data := #[98] }] #[.int .i64 1, .string { data := #[] }, .int .i64 0, .string { data := #[] }, .string { data := #[] }, .slice none 0 0, .slice none 0 0, .int .i64 2, .string { data := #[] }, .int .i64 0, .string { data := #[] }, .string { data := #[] }, .slice none 0 0, .slice none 0 0] #[.int .i64 5, .string { data := #[] }, .int .i64 0, .string { data := #[] }, .string { data := #[] }, .slice (some ⟨w.heap.size, 0, none⟩) 2 2, .slice (some ⟨w.heap.size + 1, 0, none⟩) 2 2] #[.string { data := #[97] }] #[.int .i64 1, .string { data := #[] }, .int .i64 0, .string { data := #[] }, .string { data := #[] }, .slice none 0 0, .slice none 0 0] #[.int .i64 5, .string { data := #[] }, .int .i64 0, .string { data := #[] }, .string { data := #[] }, .slice (some ⟨w.heap.size + 1 + 1 + 1, 0, none⟩) 1 1, .slice (some ⟨w.heap.size + 1 + 1 + 1 + 1, 0, none⟩) 1 1] 9 25 25 9 25 25
  generalize ((((((w.alloc (.cells #[.string { data := #[97] }, .string { data := #[98] }] 9)).alloc (.cells #[.int .i64 1, .string { data := #[] }, .int .i64 0, .string { data := #[] }, .string { data := #[] }, .slice none 0 0, .slice none 0 0, .int .i64 2, .string { data := #[] }, .int .i64 0, .string { data := #[] }, .string { data := #[] }, .slice none 0 0, .slice none 0 0] 25)).alloc (.cells #[.int .i64 5, .string { data := #[] }, .int .i64 0, .string { data := #[] }, .string { data := #[] }, .slice (some ⟨w.heap.size, 0, none⟩) 2 2, .slice (some ⟨w.heap.size + 1, 0, none⟩) 2 2] 25)).alloc (.cells #[.string { data := #[97] }] 9)).alloc (.cells #[.int .i64 1, .string { data := #[] }, .int .i64 0, .string { data := #[] }, .string { data := #[] }, .slice none 0 0, .slice none 0 0] 25)).alloc (.cells #[.int .i64 5, .string { data := #[] }, .int .i64 0, .string { data := #[] }, .string { data := #[] }, .slice (some ⟨w.heap.size + 1 + 1 + 1, 0, none⟩) 1 1, .slice (some ⟨w.heap.size + 1 + 1 + 1 + 1, 0, none⟩) 1 1] 25)) = W at h6 ⊢
  obtain ⟨x0, x1, x2, x3, x4, x5, xs, xb⟩ := h6
  have hA := ty_a (B := W.heap.size) x0 x1 x0.lt x1.lt
  have hB := ty_b (B := W.heap.size) x3 x4 x3.lt x4.lt
  have HA := Lib.hid hA
  have HB := Lib.hid hB
  have XB := Lib.hid xb
  refine (join_c _ _ W.heap.size W hA hB (Nat.le_refl _)).mono ?_
  rintro e w1 ⟨⟨cs3, rfl, ht⟩, hb1⟩
  obtain ⟨na3, nc3, sa3, sc3, f3, rfl, -⟩ := ht.inv
  rw [show Value.agg (tyCells tB na3 nc3 sa3 sc3) = Value.agg #[.int .i64 5, .string { data := #[] }, .int .i64 0, .string { data := #[] }, .string { data := #[] }, .slice na3 1 nc3, .slice sa3 1 sc3] from rfl]
  have s1 := hb1.size
  have X2 := Lib.hid (x2.under hb1 x2.lt)
  have X5 := Lib.hid (x5.under hb1 x5.lt)
  have B1 := Lib.hid hb1
  clear x0 x1 x2 x3 x4 x5 xb hA hB ht hb1
  have hb2 : Below W.heap.size W (w1.alloc (.cells #[.int .i64 5, .string { data := #[] }, .int .i64 0, .string { data := #[] }, .string { data := #[] }, .slice na3 1 nc3, .slice sa3 1 sc3] 25)) := B1.out.alloc s1 _
  have p0 := X2.out.cell 0
  have r0 := X5.out.cell 0
  have p1 := X2.out.cell 1
  have r1 := X5.out.cell 1
  have p2 := X2.out.cell 2
  have r2 := X5.out.cell 2
  have p3 := X2.out.cell 3
  have r3 := X5.out.cell 3
  have p4 := X2.out.cell 4
  have r4 := X5.out.cell 4
  have p5 := X2.out.cell 5
  have r5 := X5.out.cell 5
  have p6 := X2.out.cell 6
  have r6 := X5.out.cell 6
  simp at p0 r0 p1 r1 p2 r2 p3 r3 p4 r4 p5 r5 p6 r6
  have l2 : w.heap.size + 1 + 1 < w1.heap.size := by omega
  have l5 : w.heap.size + 1 + 1 + 1 + 1 + 1 < w1.heap.size := by omega
  go_wp2_with fail
  have y2 := X2.out.alloc (.cells #[.int .i64 5, .string { data := #[] }, .int .i64 0, .string { data := #[] }, .string { data := #[] }, .slice na3 1 nc3, .slice sa3 1 sc3] 25)
  have y5 := X5.out.alloc (.cells #[.int .i64 5, .string { data := #[] }, .int .i64 0, .string { data := #[] }, .string { data := #[] }, .slice na3 1 nc3, .slice sa3 1 sc3] 25)
  have y6 := Blk.new w1 #[.int .i64 5, .string { data := #[] }, .int .i64 0, .string { data := #[] }, .string { data := #[] }, .slice na3 1 nc3, .slice sa3 1 sc3] 25
  have hs2 : (w1.alloc (.cells #[.int .i64 5, .string { data := #[] }, .int .i64 0, .string { data := #[] }, .string { data := #[] }, .slice na3 1 nc3, .slice sa3 1 sc3] 25)).heap.size = w1.heap.size + 1 := by simp
  generalize hyb : w1.heap.size = yb at y6 ⊢
  generalize (w1.alloc (.cells #[.int .i64 5, .string { data := #[] }, .int .i64 0, .string { data := #[] }, .string { data := #[] }, .slice na3 1 nc3, .slice sa3 1 sc3] 25)) = W2 at y2 y5 y6 hb2 hs2 ⊢
  have Y2 := Lib.hid y2
  have Y5 := Lib.hid y5
  have Y6 := Lib.hid y6
  have B2 := Lib.hid hb2
  have s2 := hb2.size
  clear y2 y5 y6 hb2 p0 r0 p1 r1 p2 r2 p3 r3 p4 r4 p5 r5 p6 r6
  refine (Sub_c tA tB _ _ W.heap.size W2 (HA.out.under B2.out) (HB.out.under B2.out) s2).mono ?_
  rintro e w3 ⟨rfl, hb3⟩
  rw [sub_ab]
  have y2 := Y2.out.under hb3 Y2.out.lt
  have y5 := Y5.out.under hb3 Y5.out.lt
  have Z6 := Lib.hid (Y6.out.under hb3 Y6.out.lt)
  have Z2 := Lib.hid y2
  have Z5 := Lib.hid y5
  have B3 := Lib.hid (B2.out.trans (hb3.mono s2))
  have s3 := hb3.size
  have p0 := y2.cell 0
  have r0 := y5.cell 0
  have p1 := y2.cell 1
  have r1 := y5.cell 1
  have p2 := y2.cell 2
  have r2 := y5.cell 2
  have p3 := y2.cell 3
  have r3 := y5.cell 3
  have p4 := y2.cell 4
  have r4 := y5.cell 4
  have p5 := y2.cell 5
  have r5 := y5.cell 5
  have p6 := y2.cell 6
  have r6 := y5.cell 6
  simp at p0 r0 p1 r1 p2 r2 p3 r3 p4 r4 p5 r5 p6 r6
  clear y2 y5 hb3
  go_wp2_with fail
  refine (Sub_c tB tA _ _ W.heap.size w3 (HB.out.under B3.out) (HA.out.under B3.out) (by omega)).mono ?_
  rintro e w4 ⟨rfl, hb4⟩
  rw [sub_ba]
  have y6 := Z6.out.under hb4 Z6.out.lt
  have B4 := Lib.hid (B3.out.trans (hb4.mono (by omega)))
  have s4 := hb4.size
  have Z7 := Lib.hid y6
  clear y6 hb4 p0 r0 p1 r1 p2 r2 p3 r3 p4 r4 p5 r5 p6 r6
  go_wp2_with fail
  refine (Sub_c zeroTy zeroTy _ _ 0 w4 (zero_tyc _ _) (zero_tyc _ _) (Nat.zero_le _)).mono ?_
  rintro e w5 ⟨rfl, hb5⟩
  rw [sub_00]
  have y6 := Z7.out.under hb5 Z7.out.lt
  have q5 := y6.cell 5
  simp at q5
  have B5 : Below w.heap.size w w5 := XB.out.trans ((B4.out.mono XB.out.size).trans (hb5.mono (by have := XB.out.size; omega)))
  go_wp2_with fail
  go_ret
  exact ⟨ret_b rfl, B5⟩
end Go.Proofs.Ytalpmjmifcofeaa
namespace Go.Proofs.Ytalpmjmifcofeaa
open Go.RowKit
set_option linter.unusedSimpArgs false
set_option linter.unusedVariables false
set_option maxRecDepth 100000 in
set_option maxHeartbeats 4000000 in
theorem plain0_c (t : Ty) (cs : Array Value) (B : Nat) (w : World) (ht : TyC w B t cs) (hB : B ≤ w.heap.size) :
    Calls Try.prog 12 #[.agg cs] w fun e w' => e = .returned (.bool (FewB t && PlainB t)) ∧ Below w.heap.size w w' := by
  obtain ⟨na, nc, sa, sc, f, rfl, -⟩ := ht.inv
  have HT := Lib.hid ht
  clear ht
  go_enter Try.func12, Try.ntmps12
  simp only [tyCells]
  go_wp2_with fail
  have hacc : Below w.heap.size w (w.alloc (.cells #[.int .i64 t.kind, .string t.pkg, .int .i64 t.major, .string t.mod, .string t.name, .slice na t.names.length nc, .slice sa t.subs.length sc] 25)) := (Below.refl _ _).alloc (Nat.le_refl _) _
  have x := Blk.new w #[.int .i64 t.kind, .string t.pkg, .int .i64 t.major, .string t.mod, .string t.name, .slice na t.names.length nc, .slice sa t.subs.length sc] 25
  have hT := HT.out.alloc hB (.cells #[.int .i64 t.kind, .string t.pkg, .int .i64 t.major, .string t.mod, .string t.name, .slice na t.names.length nc, .slice sa t.subs.length sc] 25)
  simp only [tyCells] at hT
  generalize (w.alloc (.cells #[.int .i64 t.kind, .string t.pkg, .int .i64 t.major, .string t.mod, .string t.name, .slice na t.names.length nc, .slice sa t.subs.length sc] 25)) = W at hacc x hT ⊢
  have HT1 := Lib.hid hT
  have X := Lib.hid x
  have HA := Lib.hid hacc
  have hsz := hacc.size
  have hBW : B ≤ W.heap.size := Nat.le_trans hB hsz
  clear hacc x
  refine (Few_c t _ B W hT hBW).mono ?_
  rintro e w1 ⟨rfl, hb1⟩
  have x1 := X.out.under hb1 X.out.lt
  have c0 := x1.cell 0
  have c1 := x1.cell 1
  have c2 := x1.cell 2
  have c3 := x1.cell 3
  have c4 := x1.cell 4
  have c5 := x1.cell 5
  have c6 := x1.cell 6
  simp at c0 c1 c2 c3 c4 c5 c6
  have X1 := Lib.hid x1
  have B1 := Lib.hid hb1
  have s1 := hb1.size
  clear hT x1 hb1
  cases hf : FewB t
  · have HF := Lib.hid hf
    clear hf
    go_wp2_with fail
    go_ret
    exact ⟨ret_b (by rw [HF.out]; rfl), HA.out.trans (B1.out.mono hsz)⟩
  · have HF := Lib.hid hf
    clear hf
    go_wp2_with fail
    refine (rMay_c t _ B w1 (HT1.out.under (B1.out.mono hBW)) (by omega) (by have := few_many t HF.out; omega)).mono ?_
    rintro e w2 ⟨rfl, hb2⟩
    have x2 := X1.out.under hb2 X1.out.lt
    clear c0 c1 c2 c3 c4 c5 c6
    have c0 := x2.cell 0
    have c1 := x2.cell 1
    have c2 := x2.cell 2
    have c3 := x2.cell 3
    have c4 := x2.cell 4
    have c5 := x2.cell 5
    have c6 := x2.cell 6
    simp at c0 c1 c2 c3 c4 c5 c6
    have B2 := Lib.hid hb2
    have s2 := hb2.size
    clear x2 hb2
    cases hm : mayT t
    · have HM := Lib.hid hm
      clear hm
      go_wp2_with fail
      go_ret
      refine ⟨ret_b ?_, (HA.out.trans (B1.out.mono hsz)).trans (B2.out.mono (by omega))⟩
      rw [PlainB, HM.out, HF.out]
      rfl
    · have HM := Lib.hid hm
      clear hm
      go_wp2_with fail
      refine (rPlain_c t _ B w2 ((HT1.out.under (B1.out.mono hBW)).under (B2.out.mono (by omega))) (by omega)).mono ?_
      rintro e w3 ⟨rfl, hb3⟩
      have B3 := Lib.hid hb3
      clear hb3 c0 c1 c2 c3 c4 c5 c6
      go_wp2_with fail
      go_ret
      refine ⟨ret_b ?_, ((HA.out.trans (B1.out.mono hsz)).trans (B2.out.mono (by omega))).trans (B3.out.mono (by omega))⟩
      rw [PlainB, HM.out, HF.out]
      rfl
end Go.Proofs.Ytalpmjmifcofeaa
namespace Go.Proofs.Ytalpmjmifcofeaa
open Go.RowKit
set_option linter.unusedSimpArgs false
set_option linter.unusedVariables false
theorem sub_few {a b : Ty} (h : (FewB a && PlainB a) = false) (hf : FewB a = true) : SubB a b = false := by
  rw [hf, Bool.true_and] at h
  rw [SubB, h, Bool.false_and]
theorem sub_few' {a b : Ty} (h : (FewB b && PlainB b) = false) (hf : FewB b = true) : SubB a b = false := by
  rw [hf, Bool.true_and] at h
  rw [SubB, h, Bool.false_and, Bool.and_false]
theorem boxes2 (w : World) (c0 c1 : Array Value) (T : TypeId) : Blk ((w.alloc (.cells c0 T)).alloc (.cells c1 T)) w.heap.size c0 T ∧ Blk ((w.alloc (.cells c0 T)).alloc (.cells c1 T)) (w.heap.size + 1) c1 T ∧
    ((w.alloc (.cells c0 T)).alloc (.cells c1 T)).heap.size = w.heap.size + 2 ∧ Below w.heap.size w ((w.alloc (.cells c0 T)).alloc (.cells c1 T)) := by
  have e1 : (w.alloc (.cells c0 T)).heap.size = w.heap.size + 1 := by simp
  have b1 := Blk.new (w.alloc (.cells c0 T)) c1 T
  rw [e1] at b1
  exact ⟨(Blk.new w c0 T).alloc _, b1, by simp, ((Below.refl _ _).alloc (Nat.le_refl _) _).alloc (by simp) _⟩
theorem cells2 {W w' : World} {p q : Nat} {a0 a1 a2 a3 a4 a5 a6 b0 b1 b2 b3 b4 b5 b6 : Value} {T : TypeId} (ha : Blk W p #[a0, a1, a2, a3, a4, a5, a6] T) (hb : Blk W q #[b0, b1, b2, b3, b4, b5, b6] T) (h : Below W.heap.size W w') :
    w'.cell? ⟨p, 0, none⟩ = some a0 ∧ w'.cell? ⟨p, 1, none⟩ = some a1 ∧ w'.cell? ⟨p, 2, none⟩ = some a2 ∧ w'.cell? ⟨p, 3, none⟩ = some a3 ∧ w'.cell? ⟨p, 4, none⟩ = some a4 ∧ w'.cell? ⟨p, 5, none⟩ = some a5 ∧ w'.cell? ⟨p, 6, none⟩ = some a6 ∧ w'.cell? ⟨q, 0, none⟩ = some b0 ∧ w'.cell? ⟨q, 1, none⟩ = some b1 ∧ w'.cell? ⟨q, 2, none⟩ = some b2 ∧ w'.cell? ⟨q, 3, none⟩ = some b3 ∧ w'.cell? ⟨q, 4, none⟩ = some b4 ∧ w'.cell? ⟨q, 5, none⟩ = some b5 ∧ w'.cell? ⟨q, 6, none⟩ = some b6 ∧ Below W.heap.size W w' := by
  have x := ha.under h ha.lt
  have y := hb.under h hb.lt
  exact ⟨x.cell 0, x.cell 1, x.cell 2, x.cell 3, x.cell 4, x.cell 5, x.cell 6, y.cell 0, y.cell 1, y.cell 2, y.cell 3, y.cell 4, y.cell 5, y.cell 6, h⟩
theorem sub_plain (a b : Ty) (cs cs' : Array Value) (B : Nat) (w : World) (ha : TyC w B a cs) (hb : TyC w B b cs') (hB : B ≤ w.heap.size) (pa : PlainB a = true) (pb : PlainB b = true) (v : Bool) (hv : subF 32 a b = v) :
    Calls Try.prog 13 #[.agg cs, .agg cs'] w fun e w' => e = .returned (.bool v) ∧ Below w.heap.size w w' := by
  subst hv
  have h := Sub_c a b cs cs' B w ha hb hB
  rw [show SubB a b = subF 32 a b by rw [SubB, pa, pb]; simp] at h
  exact h
end Go.Proofs.Ytalpmjmifcofeaa
namespace Go.Proofs.Ytalpmjmifcofeaa
open Go.RowKit
set_option linter.unusedSimpArgs false
set_option linter.unusedVariables false
def JoinsB (a b : Ty) : Bool := PlainB a && (PlainB b && (bndF 32 true a b).isSome)
set_option maxRecDepth 100000 in
set_option maxHeartbeats 4000000 in
theorem joins_c (a b : Ty) (cs cs' : Array Value) (B : Nat) (w : World) (ha : TyC w B a cs) (hb : TyC w B b cs') (hB : B ≤ w.heap.size) :
    Calls Try.prog 20 #[.agg cs, .agg cs'] w fun e w' => e = .returned (.bool (JoinsB a b)) ∧ Below w.heap.size w w' := by
  obtain ⟨na, nc, sa, sc, f, rfl, -⟩ := ha.inv
  obtain ⟨na', nc', sa', sc', f', rfl, -⟩ := hb.inv
  have HA := Lib.hid ha
  have HB := Lib.hid hb
  clear ha hb
  obtain ⟨R, hR⟩ : ∃ R, JoinsB a b = R := ⟨_, rfl⟩
  have HR := Lib.hid hR
  rw [hR]
  clear hR
  go_enter Try.func20, Try.ntmps20
  simp only [tyCells]
  go_wp2_with fail
  have h2 := boxes2 w #[.int .i64 a.kind, .string a.pkg, .int .i64 a.major, .string a.mod, .string a.name, .slice na a.names.length nc, .slice sa a.subs.length sc] #[.int .i64 b.kind, .string b.pkg, .int .i64 b.major, .string b.mod, .string b.name, .slice na' b.names.length nc', .slice sa' b.subs.length sc'] 25
  generalize ((w.alloc (.cells #[.int .i64 a.kind, .string a.pkg, .int .i64 a.major, .string a.mod, .string a.name, .slice na a.names.length nc, .slice sa a.subs.length sc] 25)).alloc (.cells #[.int .i64 b.kind, .string b.pkg, .int .i64 b.major, .string b.mod, .string b.name, .slice na' b.names.length nc', .slice sa' b.subs.length sc'] 25)) = W at h2 ⊢
  obtain ⟨x0, x1, xs, xb⟩ := h2
  have X0 := Lib.hid x0
  have X1 := Lib.hid x1
  have XB := Lib.hid xb
  have hsz := xb.size
  have hA := HA.out.under (xb.mono hB)
  have hB' := HB.out.under (xb.mono hB)
  simp only [tyCells] at hA hB'
  have HA1 := Lib.hid hA
  have HB1 := Lib.hid hB'
  have hBW : B ≤ W.heap.size := Nat.le_trans hB hsz
  clear x0 x1 xb hA hB'
  refine (Plain_c a _ B W HA1.out hBW).mono ?_
  rintro e w1 ⟨rfl, hb1⟩
  have B1 := Lib.hid hb1
  have s1 := hb1.size
  have y1 := X1.out.under hb1 X1.out.lt
  have b0 := y1.cell 0
  have b1 := y1.cell 1
  have b2 := y1.cell 2
  have b3 := y1.cell 3
  have b4 := y1.cell 4
  have b5 := y1.cell 5
  have b6 := y1.cell 6
  simp at b0 b1 b2 b3 b4 b5 b6
  clear y1 hb1
  cases pa : PlainB a
  · have hr : R = false := by rw [← HR.out, JoinsB, pa]; rfl
    subst hr
    go_wp2_with fail
    go_ret
    exact ⟨rfl, acc0 XB.out hsz B1.out⟩
  go_wp2_with fail
  refine (Plain_c b _ B w1 (HB1.out.under (B1.out.mono hBW)) (by omega)).mono ?_
  rintro e w2 ⟨rfl, hb2⟩
  have B2 := Lib.hid (B1.out.trans (hb2.mono s1))
  have s2 := hb2.size
  have y0 := X0.out.under B2.out X0.out.lt
  have y1 := X1.out.under B2.out X1.out.lt
  clear b0 b1 b2 b3 b4 b5 b6
  have a0 := y0.cell 0
  have b0 := y1.cell 0
  have a1 := y0.cell 1
  have b1 := y1.cell 1
  have a2 := y0.cell 2
  have b2 := y1.cell 2
  have a3 := y0.cell 3
  have b3 := y1.cell 3
  have a4 := y0.cell 4
  have b4 := y1.cell 4
  have a5 := y0.cell 5
  have b5 := y1.cell 5
  have a6 := y0.cell 6
  have b6 := y1.cell 6
  simp at a0 a1 a2 a3 a4 a5 a6 b0 b1 b2 b3 b4 b5 b6
  clear y0 y1 hb2
  cases pb : PlainB b
  · have hr : R = false := by rw [← HR.out, JoinsB, pa, pb]; rfl
    subst hr
    go_wp2_with fail
    go_ret
    exact ⟨rfl, acc0 XB.out hsz B2.out⟩
  have hr : R = (bndF 32 true a b).isSome := by rw [← HR.out, JoinsB, pa, pb]; rfl
  have HRR := Lib.hid hr
  have hbd := bound_c 32 true a b (plain_may pa) (plain_may pb) (may_deep (plain_may pa)) (may_deep (plain_may pb))
  have HBD := Lib.hid hbd
  clear hr hbd
  go_wp2_with fail
  refine (HBD.out _ _ B w2 (HA1.out.under (B2.out.mono hBW)) (HB1.out.under (B2.out.mono hBW)) (by omega)).mono ?_
  rintro e w3 ⟨⟨t, cr, rfl, -, htm⟩, hb3⟩
  obtain ⟨na3, nc3, sa3, sc3, f3, rfl, -⟩ := htm.inv
  have B3 := Lib.hid (B2.out.trans (hb3.mono (by omega)))
  rw [← HRR.out]
  simp only [tyCells]
  clear htm hb3 a0 a1 a2 a3 a4 a5 a6 b0 b1 b2 b3 b4 b5 b6
  go_wp2_with fail
  go_ret
  exact ⟨rfl, (acc0 XB.out hsz B3.out).alloc (by have := B3.out.size; omega) _⟩
end Go.Proofs.Ytalpmjmifcofeaa
namespace Go.Proofs.Ytalpmjmifcofeaa
open Go.RowKit
set_option linter.unusedSimpArgs false
set_option linter.unusedVariables false
theorem zero_tym (w : World) (M : Nat → Prop) : TyM w M zeroTy #[.int .i64 0, .string { data := #[] }, .int .i64 0, .string { data := #[] }, .string { data := #[] }, .slice none 0 0, .slice none 0 0] :=
  ((zero_tyc w 0).toM.mono fun b hb => by omega)
set_option maxRecDepth 100000 in
set_option maxHeartbeats 4000000 in
theorem whole_no1 (a b : Ty) (up : Bool) (cs cs' : Array Value) (B : Nat) (w : World) (ha : TyC w B a cs) (hb : TyC w B b cs') (hB : B ≤ w.heap.size) (pa : PlainB a = false) :
    Calls Try.prog 38 #[.agg cs, .agg cs', .bool up] w fun e w' => (∃ cs'', e = .returned (.tuple #[.agg cs'', .bool false]) ∧ TyM w' (Fresh w w') zeroTy cs'') ∧ Below w.heap.size w w' := by
  obtain ⟨na, nc, sa, sc, f, rfl, -⟩ := ha.inv
  obtain ⟨na', nc', sa', sc', f', rfl, -⟩ := hb.inv
  have HA := Lib.hid ha
  have HB := Lib.hid hb
  have PA := Lib.hid pa
  clear ha hb pa
  go_enter Try.func38, Try.ntmps38
  simp only [tyCells]
  go_wp2_with fail
  have h3 := boxes3 w #[.int .i64 a.kind, .string a.pkg, .int .i64 a.major, .string a.mod, .string a.name, .slice na a.names.length nc, .slice sa a.subs.length sc] #[.int .i64 b.kind, .string b.pkg, .int .i64 b.major, .string b.mod, .string b.name, .slice na' b.names.length nc', .slice sa' b.subs.length sc'] #[.int .i64 0, .string { data := #[] }, .int .i64 0, .string { data := #[] }, .string { data := #[] }, .slice none 0 0, .slice none 0 0] 25
  generalize (((w.alloc (.cells #[.int .i64 a.kind, .string a.pkg, .int .i64 a.major, .string a.mod, .string a.name, .slice na a.names.length nc, .slice sa a.subs.length sc] 25)).alloc (.cells #[.int .i64 b.kind, .string b.pkg, .int .i64 b.major, .string b.mod, .string b.name, .slice na' b.names.length nc', .slice sa' b.subs.length sc'] 25)).alloc (.cells #[.int .i64 0, .string { data := #[] }, .int .i64 0, .string { data := #[] }, .string { data := #[] }, .slice none 0 0, .slice none 0 0] 25)) = W at h3 ⊢
  obtain ⟨x0, x1, x2, xs, xb⟩ := h3
  have X0 := Lib.hid x0
  have X1 := Lib.hid x1
  have X2 := Lib.hid x2
  have XB := Lib.hid xb
  have hsz := xb.size
  have hA := HA.out.under (xb.mono hB)
  have hB' := HB.out.under (xb.mono hB)
  simp only [tyCells] at hA hB'
  have HA1 := Lib.hid hA
  have HB1 := Lib.hid hB'
  have hBW : B ≤ W.heap.size := Nat.le_trans hB hsz
  refine (Plain_c a _ B W hA hBW).mono ?_
  rintro e w1 ⟨rfl, hb1⟩
  have y1 := x1.under hb1 x1.lt
  have b0 := y1.cell 0
  have b1 := y1.cell 1
  have b2 := y1.cell 2
  have b3 := y1.cell 3
  have b4 := y1.cell 4
  have b5 := y1.cell 5
  have b6 := y1.cell 6
  simp at b0 b1 b2 b3 b4 b5 b6
  have Y0 := Lib.hid (x0.under hb1 x0.lt)
  have Y1 := Lib.hid y1
  have Y2 := Lib.hid (x2.under hb1 x2.lt)
  have B1 := Lib.hid hb1
  have s1 := hb1.size
  rw [PA.out]
  clear x0 x1 x2 xb hA hB' y1 hb1
  have zz := Y2.out
  have z0 := zz.cell 0
  have f0 := zz.free 0
  have z1 := zz.cell 1
  have f1 := zz.free 1
  have z2 := zz.cell 2
  have f2 := zz.free 2
  have z3 := zz.cell 3
  have f3 := zz.free 3
  have z4 := zz.cell 4
  have f4 := zz.free 4
  have z5 := zz.cell 5
  have f5 := zz.free 5
  have z6 := zz.cell 6
  have f6 := zz.free 6
  simp at z0 z1 z2 z3 z4 z5 z6
  have ZZ := Lib.hid zz
  clear zz b0 b1 b2 b3 b4 b5 b6
  go_wp2_with fail
  have hbl := put7_bel (.int .i64 0) (.string { data := #[] }) (.int .i64 0) (.string { data := #[] }) (.string { data := #[] }) (.slice none 0 0) (.slice none 0 0) (acc0 XB.out XB.out.size B1.out) (show w.heap.size ≤ w.heap.size + 1 + 1 by omega)
  have hblk := put7_full (.int .i64 0) (.string { data := #[] }) (.int .i64 0) (.string { data := #[] }) (.string { data := #[] }) (.slice none 0 0) (.slice none 0 0) ZZ.out
  generalize (((((((w1.setCell ⟨w.heap.size + 1 + 1, 0, none⟩ (.int .i64 0)).setCell ⟨w.heap.size + 1 + 1, 1, none⟩ (.string { data := #[] })).setCell ⟨w.heap.size + 1 + 1, 2, none⟩ (.int .i64 0)).setCell ⟨w.heap.size + 1 + 1, 3, none⟩ (.string { data := #[] })).setCell ⟨w.heap.size + 1 + 1, 4, none⟩ (.string { data := #[] })).setCell ⟨w.heap.size + 1 + 1, 5, none⟩ (.slice none 0 0)).setCell ⟨w.heap.size + 1 + 1, 6, none⟩ (.slice none 0 0)) = Wz at hbl hblk ⊢
  have q0 := hblk.cell 0
  have q1 := hblk.cell 1
  have q2 := hblk.cell 2
  have q3 := hblk.cell 3
  have q4 := hblk.cell 4
  have q5 := hblk.cell 5
  have q6 := hblk.cell 6
  simp at q0 q1 q2 q3 q4 q5 q6
  refine bodyPost_ret (by simp [results, Try.results38, go_sem, q0, q1, q2, q3, q4, q5, q6]; try rfl) rfl ?_
  exact ⟨⟨_, rfl, zero_tym _ _⟩, hbl⟩
set_option maxRecDepth 100000 in
set_option maxHeartbeats 4000000 in
theorem whole_no2 (a b : Ty) (up : Bool) (cs cs' : Array Value) (B : Nat) (w : World) (ha : TyC w B a cs) (hb : TyC w B b cs') (hB : B ≤ w.heap.size) (pa : PlainB a = true) (pb : PlainB b = false) :
    Calls Try.prog 38 #[.agg cs, .agg cs', .bool up] w fun e w' => (∃ cs'', e = .returned (.tuple #[.agg cs'', .bool false]) ∧ TyM w' (Fresh w w') zeroTy cs'') ∧ Below w.heap.size w w' := by
  obtain ⟨na, nc, sa, sc, f, rfl, -⟩ := ha.inv
  obtain ⟨na', nc', sa', sc', f', rfl, -⟩ := hb.inv
  have HA := Lib.hid ha
  have HB := Lib.hid hb
  have PA := Lib.hid pa
  have PB := Lib.hid pb
  clear ha hb pa pb
  go_enter Try.func38, Try.ntmps38
  simp only [tyCells]
  go_wp2_with fail
  have h3 := boxes3 w #[.int .i64 a.kind, .string a.pkg, .int .i64 a.major, .string a.mod, .string a.name, .slice na a.names.length nc, .slice sa a.subs.length sc] #[.int .i64 b.kind, .string b.pkg, .int .i64 b.major, .string b.mod, .string b.name, .slice na' b.names.length nc', .slice sa' b.subs.length sc'] #[.int .i64 0, .string { data := #[] }, .int .i64 0, .string { data := #[] }, .string { data := #[] }, .slice none 0 0, .slice none 0 0] 25
  generalize (((w.alloc (.cells #[.int .i64 a.kind, .string a.pkg, .int .i64 a.major, .string a.mod, .string a.name, .slice na a.names.length nc, .slice sa a.subs.length sc] 25)).alloc (.cells #[.int .i64 b.kind, .string b.pkg, .int .i64 b.major, .string b.mod, .string b.name, .slice na' b.names.length nc', .slice sa' b.subs.length sc'] 25)).alloc (.cells #[.int .i64 0, .string { data := #[] }, .int .i64 0, .string { data := #[] }, .string { data := #[] }, .slice none 0 0, .slice none 0 0] 25)) = W at h3 ⊢
  obtain ⟨x0, x1, x2, xs, xb⟩ := h3
  have X0 := Lib.hid x0
  have X1 := Lib.hid x1
  have X2 := Lib.hid x2
  have XB := Lib.hid xb
  have hsz := xb.size
  have hA := HA.out.under (xb.mono hB)
  have hB' := HB.out.under (xb.mono hB)
  simp only [tyCells] at hA hB'
  have HA1 := Lib.hid hA
  have HB1 := Lib.hid hB'
  have hBW : B ≤ W.heap.size := Nat.le_trans hB hsz
  refine (Plain_c a _ B W hA hBW).mono ?_
  rintro e w1 ⟨rfl, hb1⟩
  have y1 := x1.under hb1 x1.lt
  have b0 := y1.cell 0
  have b1 := y1.cell 1
  have b2 := y1.cell 2
  have b3 := y1.cell 3
  have b4 := y1.cell 4
  have b5 := y1.cell 5
  have b6 := y1.cell 6
  simp at b0 b1 b2 b3 b4 b5 b6
  have Y0 := Lib.hid (x0.under hb1 x0.lt)
  have Y1 := Lib.hid y1
  have Y2 := Lib.hid (x2.under hb1 x2.lt)
  have B1 := Lib.hid hb1
  have s1 := hb1.size
  rw [PA.out]
  clear x0 x1 x2 xb hA hB' y1 hb1
  go_wp2_with fail
  refine (Plain_c b _ B w1 (HB1.out.under (B1.out.mono hBW)) (by omega)).mono ?_
  rintro e w2 ⟨rfl, hb2⟩
  have y0 := Y0.out.under hb2 Y0.out.lt
  have y1 := Y1.out.under hb2 Y1.out.lt
  clear b0 b1 b2 b3 b4 b5 b6
  have b0 := y1.cell 0
  have b1 := y1.cell 1
  have b2 := y1.cell 2
  have b3 := y1.cell 3
  have b4 := y1.cell 4
  have b5 := y1.cell 5
  have b6 := y1.cell 6
  simp at b0 b1 b2 b3 b4 b5 b6
  have a0 := y0.cell 0
  have a1 := y0.cell 1
  have a2 := y0.cell 2
  have a3 := y0.cell 3
  have a4 := y0.cell 4
  have a5 := y0.cell 5
  have a6 := y0.cell 6
  simp at a0 a1 a2 a3 a4 a5 a6
  have Z2 := Lib.hid (Y2.out.under hb2 Y2.out.lt)
  have B2 := Lib.hid hb2
  have s2 := hb2.size
  rw [PB.out]
  clear y0 y1 hb2
  have zz := Z2.out
  have z0 := zz.cell 0
  have f0 := zz.free 0
  have z1 := zz.cell 1
  have f1 := zz.free 1
  have z2 := zz.cell 2
  have f2 := zz.free 2
  have z3 := zz.cell 3
  have f3 := zz.free 3
  have z4 := zz.cell 4
  have f4 := zz.free 4
  have z5 := zz.cell 5
  have f5 := zz.free 5
  have z6 := zz.cell 6
  have f6 := zz.free 6
  simp at z0 z1 z2 z3 z4 z5 z6
  have ZZ := Lib.hid zz
  clear zz a0 a1 a2 a3 a4 a5 a6 b0 b1 b2 b3 b4 b5 b6
  go_wp2_with fail
  have hbl := put7_bel (.int .i64 0) (.string { data := #[] }) (.int .i64 0) (.string { data := #[] }) (.string { data := #[] }) (.slice none 0 0) (.slice none 0 0) (acc0 (acc0 XB.out XB.out.size B1.out) (by omega) B2.out) (show w.heap.size ≤ w.heap.size + 1 + 1 by omega)
  have hblk := put7_full (.int .i64 0) (.string { data := #[] }) (.int .i64 0) (.string { data := #[] }) (.string { data := #[] }) (.slice none 0 0) (.slice none 0 0) ZZ.out
  generalize (((((((w2.setCell ⟨w.heap.size + 1 + 1, 0, none⟩ (.int .i64 0)).setCell ⟨w.heap.size + 1 + 1, 1, none⟩ (.string { data := #[] })).setCell ⟨w.heap.size + 1 + 1, 2, none⟩ (.int .i64 0)).setCell ⟨w.heap.size + 1 + 1, 3, none⟩ (.string { data := #[] })).setCell ⟨w.heap.size + 1 + 1, 4, none⟩ (.string { data := #[] })).setCell ⟨w.heap.size + 1 + 1, 5, none⟩ (.slice none 0 0)).setCell ⟨w.heap.size + 1 + 1, 6, none⟩ (.slice none 0 0)) = Wz at hbl hblk ⊢
  have q0 := hblk.cell 0
  have q1 := hblk.cell 1
  have q2 := hblk.cell 2
  have q3 := hblk.cell 3
  have q4 := hblk.cell 4
  have q5 := hblk.cell 5
  have q6 := hblk.cell 6
  simp at q0 q1 q2 q3 q4 q5 q6
  refine bodyPost_ret (by simp [results, Try.results38, go_sem, q0, q1, q2, q3, q4, q5, q6]; try rfl) rfl ?_
  exact ⟨⟨_, rfl, zero_tym _ _⟩, hbl⟩
set_option maxRecDepth 100000 in
set_option maxHeartbeats 4000000 in
theorem whole_no3 (a b : Ty) (up : Bool) (cs cs' : Array Value) (B : Nat) (w : World) (ha : TyC w B a cs) (hb : TyC w B b cs') (hB : B ≤ w.heap.size) (pa : PlainB a = true) (pb : PlainB b = true) (hbd : BoundAt a b up none) :
    Calls Try.prog 38 #[.agg cs, .agg cs', .bool up] w fun e w' => (∃ cs'', e = .returned (.tuple #[.agg cs'', .bool false]) ∧ TyM w' (Fresh w w') zeroTy cs'') ∧ Below w.heap.size w w' := by
  obtain ⟨na, nc, sa, sc, f, rfl, -⟩ := ha.inv
  obtain ⟨na', nc', sa', sc', f', rfl, -⟩ := hb.inv
  have HA := Lib.hid ha
  have HB := Lib.hid hb
  have PA := Lib.hid pa
  have PB := Lib.hid pb
  have HBD := Lib.hid hbd
  clear ha hb pa pb hbd
  go_enter Try.func38, Try.ntmps38
  simp only [tyCells]
  go_wp2_with fail
  have h3 := boxes3 w #[.int .i64 a.kind, .string a.pkg, .int .i64 a.major, .string a.mod, .string a.name, .slice na a.names.length nc, .slice sa a.subs.length sc] #[.int .i64 b.kind, .string b.pkg, .int .i64 b.major, .string b.mod, .string b.name, .slice na' b.names.length nc', .slice sa' b.subs.length sc'] #[.int .i64 0, .string { data := #[] }, .int .i64 0, .string { data := #[] }, .string { data := #[] }, .slice none 0 0, .slice none 0 0] 25
  generalize (((w.alloc (.cells #[.int .i64 a.kind, .string a.pkg, .int .i64 a.major, .string a.mod, .string a.name, .slice na a.names.length nc, .slice sa a.subs.length sc] 25)).alloc (.cells #[.int .i64 b.kind, .string b.pkg, .int .i64 b.major, .string b.mod, .string b.name, .slice na' b.names.length nc', .slice sa' b.subs.length sc'] 25)).alloc (.cells #[.int .i64 0, .string { data := #[] }, .int .i64 0, .string { data := #[] }, .string { data := #[] }, .slice none 0 0, .slice none 0 0] 25)) = W at h3 ⊢
  obtain ⟨x0, x1, x2, xs, xb⟩ := h3
  have X0 := Lib.hid x0
  have X1 := Lib.hid x1
  have X2 := Lib.hid x2
  have XB := Lib.hid xb
  have hsz := xb.size
  have hA := HA.out.under (xb.mono hB)
  have hB' := HB.out.under (xb.mono hB)
  simp only [tyCells] at hA hB'
  have HA1 := Lib.hid hA
  have HB1 := Lib.hid hB'
  have hBW : B ≤ W.heap.size := Nat.le_trans hB hsz
  refine (Plain_c a _ B W hA hBW).mono ?_
  rintro e w1 ⟨rfl, hb1⟩
  have y1 := x1.under hb1 x1.lt
  have b0 := y1.cell 0
  have b1 := y1.cell 1
  have b2 := y1.cell 2
  have b3 := y1.cell 3
  have b4 := y1.cell 4
  have b5 := y1.cell 5
  have b6 := y1.cell 6
  simp at b0 b1 b2 b3 b4 b5 b6
  have Y0 := Lib.hid (x0.under hb1 x0.lt)
  have Y1 := Lib.hid y1
  have Y2 := Lib.hid (x2.under hb1 x2.lt)
  have B1 := Lib.hid hb1
  have s1 := hb1.size
  rw [PA.out]
  clear x0 x1 x2 xb hA hB' y1 hb1
  go_wp2_with fail
  refine (Plain_c b _ B w1 (HB1.out.under (B1.out.mono hBW)) (by omega)).mono ?_
  rintro e w2 ⟨rfl, hb2⟩
  have y0 := Y0.out.under hb2 Y0.out.lt
  have y1 := Y1.out.under hb2 Y1.out.lt
  clear b0 b1 b2 b3 b4 b5 b6
  have b0 := y1.cell 0
  have b1 := y1.cell 1
  have b2 := y1.cell 2
  have b3 := y1.cell 3
  have b4 := y1.cell 4
  have b5 := y1.cell 5
  have b6 := y1.cell 6
  simp at b0 b1 b2 b3 b4 b5 b6
  have a0 := y0.cell 0
  have a1 := y0.cell 1
  have a2 := y0.cell 2
  have a3 := y0.cell 3
  have a4 := y0.cell 4
  have a5 := y0.cell 5
  have a6 := y0.cell 6
  simp at a0 a1 a2 a3 a4 a5 a6
  have Z2 := Lib.hid (Y2.out.under hb2 Y2.out.lt)
  have B2 := Lib.hid hb2
  have s2 := hb2.size
  rw [PB.out]
  clear y0 y1 hb2
  go_wp2_with fail
  have B12 := Lib.hid (B1.out.trans (B2.out.mono s1))
  refine (HBD.out _ _ B w2 (HA1.out.under (B12.out.mono hBW)) (HB1.out.under (B12.out.mono hBW)) (by omega)).mono ?_
  rintro e w3 ⟨⟨t', cs2, rfl, ht, htm⟩, hb3⟩
  obtain ⟨na2, nc2, sa2, sc2, f2, rfl, -⟩ := htm.inv
  have HT := Lib.hid htm
  have B3 := Lib.hid hb3
  have s3 := hb3.size
  simp only [tyCells, Option.isSome_none]
  clear htm hb3 a0 a1 a2 a3 a4 a5 a6 b0 b1 b2 b3 b4 b5 b6 ht
  go_upto_region 4 with fail
  have hTC : TyC w3 w3.heap.size t' #[.int .i64 t'.kind, .string t'.pkg, .int .i64 t'.major, .string t'.mod, .string t'.name, .slice na2 t'.names.length nc2, .slice sa2 t'.subs.length sc2] := (HT.out.mono fun b hb => by
    rcases hb with hb | hb
    · show b < w3.heap.size
      omega
    · exact hb.2).toC
  have hTB := Blk.new w3 #[.int .i64 t'.kind, .string t'.pkg, .int .i64 t'.major, .string t'.mod, .string t'.name, .slice na2 t'.names.length nc2, .slice sa2 t'.subs.length sc2] 25
  have hT4 := hTC.alloc (Nat.le_refl _) (.cells #[.int .i64 t'.kind, .string t'.pkg, .int .i64 t'.major, .string t'.mod, .string t'.name, .slice na2 t'.names.length nc2, .slice sa2 t'.subs.length sc2] 25)
  have hZ4 := (Z2.out.under B3.out Z2.out.lt).alloc (.cells #[.int .i64 t'.kind, .string t'.pkg, .int .i64 t'.major, .string t'.mod, .string t'.name, .slice na2 t'.names.length nc2, .slice sa2 t'.subs.length sc2] 25)
  have hB4 : Below w2.heap.size w2 (w3.alloc (.cells #[.int .i64 t'.kind, .string t'.pkg, .int .i64 t'.major, .string t'.mod, .string t'.name, .slice na2 t'.names.length nc2, .slice sa2 t'.subs.length sc2] 25)) := B3.out.alloc s3 _
  have hs4 : (w3.alloc (.cells #[.int .i64 t'.kind, .string t'.pkg, .int .i64 t'.major, .string t'.mod, .string t'.name, .slice na2 t'.names.length nc2, .slice sa2 t'.subs.length sc2] 25)).heap.size = w3.heap.size + 1 := by simp
  generalize hy : w3.heap.size = yb at hTB hT4 hs4 ⊢
  generalize (w3.alloc (.cells #[.int .i64 t'.kind, .string t'.pkg, .int .i64 t'.major, .string t'.mod, .string t'.name, .slice na2 t'.names.length nc2, .slice sa2 t'.subs.length sc2] 25)) = W4 at hTB hT4 hZ4 hB4 hs4 ⊢
  have HTB := Lib.hid hTB
  have HZ4 := Lib.hid hZ4
  have HB4 := Lib.hid hB4
  clear hTC hTB hT4 hZ4 hB4 hy
  have zz := HZ4.out
  have z0 := zz.cell 0
  have f0 := zz.free 0
  have z1 := zz.cell 1
  have f1 := zz.free 1
  have z2 := zz.cell 2
  have f2 := zz.free 2
  have z3 := zz.cell 3
  have f3 := zz.free 3
  have z4 := zz.cell 4
  have f4 := zz.free 4
  have z5 := zz.cell 5
  have f5 := zz.free 5
  have z6 := zz.cell 6
  have f6 := zz.free 6
  simp at z0 z1 z2 z3 z4 z5 z6
  have ZZ := Lib.hid zz
  clear zz 
  go_wp2_with fail
  have hbl := put7_bel (.int .i64 0) (.string { data := #[] }) (.int .i64 0) (.string { data := #[] }) (.string { data := #[] }) (.slice none 0 0) (.slice none 0 0) (acc0 (acc0 (acc0 XB.out XB.out.size B1.out) (by omega) B2.out) (by omega) HB4.out) (show w.heap.size ≤ w.heap.size + 1 + 1 by omega)
  have hblk := put7_full (.int .i64 0) (.string { data := #[] }) (.int .i64 0) (.string { data := #[] }) (.string { data := #[] }) (.slice none 0 0) (.slice none 0 0) ZZ.out
  generalize (((((((W4.setCell ⟨w.heap.size + 1 + 1, 0, none⟩ (.int .i64 0)).setCell ⟨w.heap.size + 1 + 1, 1, none⟩ (.string { data := #[] })).setCell ⟨w.heap.size + 1 + 1, 2, none⟩ (.int .i64 0)).setCell ⟨w.heap.size + 1 + 1, 3, none⟩ (.string { data := #[] })).setCell ⟨w.heap.size + 1 + 1, 4, none⟩ (.string { data := #[] })).setCell ⟨w.heap.size + 1 + 1, 5, none⟩ (.slice none 0 0)).setCell ⟨w.heap.size + 1 + 1, 6, none⟩ (.slice none 0 0)) = Wz at hbl hblk ⊢
  have q0 := hblk.cell 0
  have q1 := hblk.cell 1
  have q2 := hblk.cell 2
  have q3 := hblk.cell 3
  have q4 := hblk.cell 4
  have q5 := hblk.cell 5
  have q6 := hblk.cell 6
  simp at q0 q1 q2 q3 q4 q5 q6
  refine bodyPost_ret (by simp [results, Try.results38, go_sem, q0, q1, q2, q3, q4, q5, q6]; try rfl) rfl ?_
  exact ⟨⟨_, rfl, zero_tym _ _⟩, hbl⟩
set_option maxRecDepth 100000 in
set_option maxHeartbeats 4000000 in
theorem whole_no4 (a b : Ty) (up : Bool) (cs cs' : Array Value) (B : Nat) (w : World) (ha : TyC w B a cs) (hb : TyC w B b cs') (hB : B ≤ w.heap.size) (t : Ty) (pa : PlainB a = true) (pb : PlainB b = true) (hbd : BoundAt a b up (some t)) (hm : mayT t = false) :
    Calls Try.prog 38 #[.agg cs, .agg cs', .bool up] w fun e w' => (∃ cs'', e = .returned (.tuple #[.agg cs'', .bool false]) ∧ TyM w' (Fresh w w') zeroTy cs'') ∧ Below w.heap.size w w' := by
  obtain ⟨na, nc, sa, sc, f, rfl, -⟩ := ha.inv
  obtain ⟨na', nc', sa', sc', f', rfl, -⟩ := hb.inv
  have HA := Lib.hid ha
  have HB := Lib.hid hb
  have PA := Lib.hid pa
  have PB := Lib.hid pb
  have HBD := Lib.hid hbd
  have HM := Lib.hid hm
  clear ha hb pa pb hbd hm
  go_enter Try.func38, Try.ntmps38
  simp only [tyCells]
  go_wp2_with fail
  have h3 := boxes3 w #[.int .i64 a.kind, .string a.pkg, .int .i64 a.major, .string a.mod, .string a.name, .slice na a.names.length nc, .slice sa a.subs.length sc] #[.int .i64 b.kind, .string b.pkg, .int .i64 b.major, .string b.mod, .string b.name, .slice na' b.names.length nc', .slice sa' b.subs.length sc'] #[.int .i64 0, .string { data := #[] }, .int .i64 0, .string { data := #[] }, .string { data := #[] }, .slice none 0 0, .slice none 0 0] 25
  generalize (((w.alloc (.cells #[.int .i64 a.kind, .string a.pkg, .int .i64 a.major, .string a.mod, .string a.name, .slice na a.names.length nc, .slice sa a.subs.length sc] 25)).alloc (.cells #[.int .i64 b.kind, .string b.pkg, .int .i64 b.major, .string b.mod, .string b.name, .slice na' b.names.length nc', .slice sa' b.subs.length sc'] 25)).alloc (.cells #[.int .i64 0, .string { data := #[] }, .int .i64 0, .string { data := #[] }, .string { data := #[] }, .slice none 0 0, .slice none 0 0] 25)) = W at h3 ⊢
  obtain ⟨x0, x1, x2, xs, xb⟩ := h3
  have X0 := Lib.hid x0
  have X1 := Lib.hid x1
  have X2 := Lib.hid x2
  have XB := Lib.hid xb
  have hsz := xb.size
  have hA := HA.out.under (xb.mono hB)
  have hB' := HB.out.under (xb.mono hB)
  simp only [tyCells] at hA hB'
  have HA1 := Lib.hid hA
  have HB1 := Lib.hid hB'
  have hBW : B ≤ W.heap.size := Nat.le_trans hB hsz
  refine (Plain_c a _ B W hA hBW).mono ?_
  rintro e w1 ⟨rfl, hb1⟩
  have y1 := x1.under hb1 x1.lt
  have b0 := y1.cell 0
  have b1 := y1.cell 1
  have b2 := y1.cell 2
  have b3 := y1.cell 3
  have b4 := y1.cell 4
  have b5 := y1.cell 5
  have b6 := y1.cell 6
  simp at b0 b1 b2 b3 b4 b5 b6
  have Y0 := Lib.hid (x0.under hb1 x0.lt)
  have Y1 := Lib.hid y1
  have Y2 := Lib.hid (x2.under hb1 x2.lt)
  have B1 := Lib.hid hb1
  have s1 := hb1.size
  rw [PA.out]
  clear x0 x1 x2 xb hA hB' y1 hb1
  go_wp2_with fail
  refine (Plain_c b _ B w1 (HB1.out.under (B1.out.mono hBW)) (by omega)).mono ?_
  rintro e w2 ⟨rfl, hb2⟩
  have y0 := Y0.out.under hb2 Y0.out.lt
  have y1 := Y1.out.under hb2 Y1.out.lt
  clear b0 b1 b2 b3 b4 b5 b6
  have b0 := y1.cell 0
  have b1 := y1.cell 1
  have b2 := y1.cell 2
  have b3 := y1.cell 3
  have b4 := y1.cell 4
  have b5 := y1.cell 5
  have b6 := y1.cell 6
  simp at b0 b1 b2 b3 b4 b5 b6
  have a0 := y0.cell 0
  have a1 := y0.cell 1
  have a2 := y0.cell 2
  have a3 := y0.cell 3
  have a4 := y0.cell 4
  have a5 := y0.cell 5
  have a6 := y0.cell 6
  simp at a0 a1 a2 a3 a4 a5 a6
  have Z2 := Lib.hid (Y2.out.under hb2 Y2.out.lt)
  have B2 := Lib.hid hb2
  have s2 := hb2.size
  rw [PB.out]
  clear y0 y1 hb2
  go_wp2_with fail
  have B12 := Lib.hid (B1.out.trans (B2.out.mono s1))
  refine (HBD.out _ _ B w2 (HA1.out.under (B12.out.mono hBW)) (HB1.out.under (B12.out.mono hBW)) (by omega)).mono ?_
  rintro e w3 ⟨⟨t', cs2, rfl, ht, htm⟩, hb3⟩
  obtain rfl := ht t rfl
  obtain ⟨na2, nc2, sa2, sc2, f2, rfl, -⟩ := htm.inv
  have HT := Lib.hid htm
  have B3 := Lib.hid hb3
  have s3 := hb3.size
  simp only [tyCells, Option.isSome_some]
  clear htm hb3 a0 a1 a2 a3 a4 a5 a6 b0 b1 b2 b3 b4 b5 b6
  go_wp2_with fail
  have hTC : TyC w3 w3.heap.size t' #[.int .i64 t'.kind, .string t'.pkg, .int .i64 t'.major, .string t'.mod, .string t'.name, .slice na2 t'.names.length nc2, .slice sa2 t'.subs.length sc2] := (HT.out.mono fun b hb => by
    rcases hb with hb | hb
    · show b < w3.heap.size
      omega
    · exact hb.2).toC
  have hTB := Blk.new w3 #[.int .i64 t'.kind, .string t'.pkg, .int .i64 t'.major, .string t'.mod, .string t'.name, .slice na2 t'.names.length nc2, .slice sa2 t'.subs.length sc2] 25
  have hT4 := hTC.alloc (Nat.le_refl _) (.cells #[.int .i64 t'.kind, .string t'.pkg, .int .i64 t'.major, .string t'.mod, .string t'.name, .slice na2 t'.names.length nc2, .slice sa2 t'.subs.length sc2] 25)
  have hZ4 := (Z2.out.under B3.out Z2.out.lt).alloc (.cells #[.int .i64 t'.kind, .string t'.pkg, .int .i64 t'.major, .string t'.mod, .string t'.name, .slice na2 t'.names.length nc2, .slice sa2 t'.subs.length sc2] 25)
  have hB4 : Below w2.heap.size w2 (w3.alloc (.cells #[.int .i64 t'.kind, .string t'.pkg, .int .i64 t'.major, .string t'.mod, .string t'.name, .slice na2 t'.names.length nc2, .slice sa2 t'.subs.length sc2] 25)) := B3.out.alloc s3 _
  have hs4 : (w3.alloc (.cells #[.int .i64 t'.kind, .string t'.pkg, .int .i64 t'.major, .string t'.mod, .string t'.name, .slice na2 t'.names.length nc2, .slice sa2 t'.subs.length sc2] 25)).heap.size = w3.heap.size + 1 := by simp
  generalize hy : w3.heap.size = yb at hTB hT4 hs4 ⊢
  generalize (w3.alloc (.cells #[.int .i64 t'.kind, .string t'.pkg, .int .i64 t'.major, .string t'.mod, .string t'.name, .slice na2 t'.names.length nc2, .slice sa2 t'.subs.length sc2] 25)) = W4 at hTB hT4 hZ4 hB4 hs4 ⊢
  have HT4 := Lib.hid hT4
  have HTB := Lib.hid hTB
  have HZ4 := Lib.hid hZ4
  have HB4 := Lib.hid hB4
  clear hTC hTB hT4 hZ4 hB4
  refine (May_c t' _ yb W4 HT4.out (by omega)).mono ?_
  rintro e w5 ⟨rfl, hb5⟩
  have s5 := hb5.size
  have y1 := HTB.out.under hb5 HTB.out.lt
  have b0 := y1.cell 0
  have b1 := y1.cell 1
  have b2 := y1.cell 2
  have b3 := y1.cell 3
  have b4 := y1.cell 4
  have b5 := y1.cell 5
  have b6 := y1.cell 6
  simp at b0 b1 b2 b3 b4 b5 b6
  have B5 := Lib.hid hb5
  rw [HM.out]
  have Z5 := Lib.hid (HZ4.out.under B5.out HZ4.out.lt)
  have hsq := B12.out.size
  clear y1 hb5 b0 b1 b2 b3 b4 b5 b6
  have zz := Z5.out
  have z0 := zz.cell 0
  have f0 := zz.free 0
  have z1 := zz.cell 1
  have f1 := zz.free 1
  have z2 := zz.cell 2
  have f2 := zz.free 2
  have z3 := zz.cell 3
  have f3 := zz.free 3
  have z4 := zz.cell 4
  have f4 := zz.free 4
  have z5 := zz.cell 5
  have f5 := zz.free 5
  have z6 := zz.cell 6
  have f6 := zz.free 6
  simp at z0 z1 z2 z3 z4 z5 z6
  have ZZ := Lib.hid zz
  clear zz 
  go_wp2_with fail
  have hbl := put7_bel (.int .i64 0) (.string { data := #[] }) (.int .i64 0) (.string { data := #[] }) (.string { data := #[] }) (.slice none 0 0) (.slice none 0 0) (acc0 (acc0 (acc0 (acc0 XB.out XB.out.size B1.out) (by omega) B2.out) (by omega) HB4.out) (by omega) B5.out) (show w.heap.size ≤ w.heap.size + 1 + 1 by omega)
  have hblk := put7_full (.int .i64 0) (.string { data := #[] }) (.int .i64 0) (.string { data := #[] }) (.string { data := #[] }) (.slice none 0 0) (.slice none 0 0) ZZ.out
  generalize (((((((w5.setCell ⟨w.heap.size + 1 + 1, 0, none⟩ (.int .i64 0)).setCell ⟨w.heap.size + 1 + 1, 1, none⟩ (.string { data := #[] })).setCell ⟨w.heap.size + 1 + 1, 2, none⟩ (.int .i64 0)).setCell ⟨w.heap.size + 1 + 1, 3, none⟩ (.string { data := #[] })).setCell ⟨w.heap.size + 1 + 1, 4, none⟩ (.string { data := #[] })).setCell ⟨w.heap.size + 1 + 1, 5, none⟩ (.slice none 0 0)).setCell ⟨w.heap.size + 1 + 1, 6, none⟩ (.slice none 0 0)) = Wz at hbl hblk ⊢
  have q0 := hblk.cell 0
  have q1 := hblk.cell 1
  have q2 := hblk.cell 2
  have q3 := hblk.cell 3
  have q4 := hblk.cell 4
  have q5 := hblk.cell 5
  have q6 := hblk.cell 6
  simp at q0 q1 q2 q3 q4 q5 q6
  refine bodyPost_ret (by simp [results, Try.results38, go_sem, q0, q1, q2, q3, q4, q5, q6]; try rfl) rfl ?_
  exact ⟨⟨_, rfl, zero_tym _ _⟩, hbl⟩
def wholeF (up : Bool) (a b : Ty) : Option Ty := if PlainB a && PlainB b then (match bndF 32 up a b with | some t => if mayT t then some t else none | none => none) else none
def getT (x : Option Ty) : Ty := x.getD zeroTy
theorem whole_c (a b : Ty) (up : Bool) (cs cs' : Array Value) (B : Nat) (w : World) (ha : TyC w B a cs) (hb : TyC w B b cs') (hB : B ≤ w.heap.size) :
    Calls Try.prog 38 #[.agg cs, .agg cs', .bool up] w fun e w' => (∃ cs'', e = .returned (.tuple #[.agg cs'', .bool (wholeF up a b).isSome]) ∧ TyM w' (Fresh w w') (getT (wholeF up a b)) cs'') ∧ Below w.heap.size w w' := by
  unfold wholeF
  cases pa : PlainB a
  · exact whole_no1 a b up cs cs' B w ha hb hB pa
  cases pb : PlainB b
  · exact whole_no2 a b up cs cs' B w ha hb hB pa pb
  have hbd := bound_c 32 up a b (plain_may pa) (plain_may pb) (may_deep (plain_may pa)) (may_deep (plain_may pb))
  cases hr : bndF 32 up a b with
  | none =>
    rw [hr] at hbd
    exact whole_no3 a b up cs cs' B w ha hb hB pa pb hbd
  | some t =>
    rw [hr] at hbd
    cases hm : mayT t
    · simpa [getT, hm] using whole_no4 a b up cs cs' B w ha hb hB t pa pb hbd hm
    · simpa [getT, hm] using whole_yes a b t up cs cs' B w ha hb hB pa pb hbd hm
set_option maxRecDepth 100000 in
set_option maxHeartbeats 4000000 in
theorem Join_c (a b : Ty) (cs cs' : Array Value) (B : Nat) (w : World) (ha : TyC w B a cs) (hb : TyC w B b cs') (hB : B ≤ w.heap.size) :
    Calls Try.prog 16 #[.agg cs, .agg cs'] w fun e w' => (∃ cs'', e = .returned (.tuple #[.agg cs'', .bool (wholeF true a b).isSome]) ∧ TyM w' (Fresh w w') (getT (wholeF true a b)) cs'') ∧ Below w.heap.size w w' := by
  obtain ⟨na, nc, sa, sc, f, rfl, -⟩ := ha.inv
  obtain ⟨na', nc', sa', sc', f', rfl, -⟩ := hb.inv
  have HA := Lib.hid ha
  have HB := Lib.hid hb
  generalize hR : wholeF true a b = R
  have HR := Lib.hid hR
  generalize hT : getT R = t
  have HTT := Lib.hid hT
  clear ha hb hR hT
  go_enter Try.func16, Try.ntmps16
  simp only [tyCells]
  go_wp2_with fail
  have h3 := boxes3 w #[.int .i64 a.kind, .string a.pkg, .int .i64 a.major, .string a.mod, .string a.name, .slice na a.names.length nc, .slice sa a.subs.length sc] #[.int .i64 b.kind, .string b.pkg, .int .i64 b.major, .string b.mod, .string b.name, .slice na' b.names.length nc', .slice sa' b.subs.length sc'] #[.int .i64 0, .string { data := #[] }, .int .i64 0, .string { data := #[] }, .string { data := #[] }, .slice none 0 0, .slice none 0 0] 25
  generalize (((w.alloc (.cells #[.int .i64 a.kind, .string a.pkg, .int .i64 a.major, .string a.mod, .string a.name, .slice na a.names.length nc, .slice sa a.subs.length sc] 25)).alloc (.cells #[.int .i64 b.kind, .string b.pkg, .int .i64 b.major, .string b.mod, .string b.name, .slice na' b.names.length nc', .slice sa' b.subs.length sc'] 25)).alloc (.cells #[.int .i64 0, .string { data := #[] }, .int .i64 0, .string { data := #[] }, .string { data := #[] }, .slice none 0 0, .slice none 0 0] 25)) = W at h3 ⊢
  obtain ⟨x0, x1, x2, xs, xb⟩ := h3
  have X2 := Lib.hid x2
  have XB := Lib.hid xb
  have hsz := xb.size
  have hA := HA.out.under (xb.mono hB)
  have hB' := HB.out.under (xb.mono hB)
  simp only [tyCells] at hA hB'
  have hBW : B ≤ W.heap.size := Nat.le_trans hB hsz
  have hwc := whole_c a b true _ _ B W hA hB' hBW
  rw [HR.out, HTT.out] at hwc
  refine hwc.mono ?_
  clear hwc
  rintro e w1 ⟨⟨cs3, rfl, ht6⟩, hb1⟩
  obtain ⟨na3, nc3, sa3, sc3, f3, rfl, -⟩ := ht6.inv
  have HT6 := Lib.hid ht6
  have s1 := hb1.size
  have zb := x2.under hb1 x2.lt
  have ZB := Lib.hid zb
  have B1 := Lib.hid hb1
  have z0 := zb.cell 0
  have f0 := zb.free 0
  have z1 := zb.cell 1
  have f1 := zb.free 1
  have z2 := zb.cell 2
  have f2 := zb.free 2
  have z3 := zb.cell 3
  have f3 := zb.free 3
  have z4 := zb.cell 4
  have f4 := zb.free 4
  have z5 := zb.cell 5
  have f5 := zb.free 5
  have z6 := zb.cell 6
  have f6 := zb.free 6
  simp at z0 z1 z2 z3 z4 z5 z6
  simp only [tyCells]
  clear ht6 hb1 zb x0 x1 x2 xb hA hB'
  go_wp2_with fail
  have hfin : Below w.heap.size w (((((((w1.setCell ⟨w.heap.size + 1 + 1, 0, none⟩ (.int .i64 t.kind)).setCell ⟨w.heap.size + 1 + 1, 1, none⟩ (.string t.pkg)).setCell ⟨w.heap.size + 1 + 1, 2, none⟩ (.int .i64 t.major)).setCell ⟨w.heap.size + 1 + 1, 3, none⟩ (.string t.mod)).setCell ⟨w.heap.size + 1 + 1, 4, none⟩ (.string t.name)).setCell ⟨w.heap.size + 1 + 1, 5, none⟩ (.slice na3 t.names.length nc3)).setCell ⟨w.heap.size + 1 + 1, 6, none⟩ (.slice sa3 t.subs.length sc3)) := put7_bel (.int .i64 t.kind) (.string t.pkg) (.int .i64 t.major) (.string t.mod) (.string t.name) (.slice na3 t.names.length nc3) (.slice sa3 t.subs.length sc3) (XB.out.trans (B1.out.mono (by omega))) (by omega)
  have hblk := put7_full (.int .i64 t.kind) (.string t.pkg) (.int .i64 t.major) (.string t.mod) (.string t.name) (.slice na3 t.names.length nc3) (.slice sa3 t.subs.length sc3) ZB.out
  have hty := ty_put7 (B := 0) (g := w.heap.size + 1 + 1) (.int .i64 t.kind) (.string t.pkg) (.int .i64 t.major) (.string t.mod) (.string t.name) (.slice na3 t.names.length nc3) (.slice sa3 t.subs.length sc3) (HT6.out.mono fun b hb => .inr hb) (Nat.zero_le _) (by omega)
  generalize (((((((w1.setCell ⟨w.heap.size + 1 + 1, 0, none⟩ (.int .i64 t.kind)).setCell ⟨w.heap.size + 1 + 1, 1, none⟩ (.string t.pkg)).setCell ⟨w.heap.size + 1 + 1, 2, none⟩ (.int .i64 t.major)).setCell ⟨w.heap.size + 1 + 1, 3, none⟩ (.string t.mod)).setCell ⟨w.heap.size + 1 + 1, 4, none⟩ (.string t.name)).setCell ⟨w.heap.size + 1 + 1, 5, none⟩ (.slice na3 t.names.length nc3)).setCell ⟨w.heap.size + 1 + 1, 6, none⟩ (.slice sa3 t.subs.length sc3)) = Wz at hfin hblk hty ⊢
  have q0 := hblk.cell 0
  have q1 := hblk.cell 1
  have q2 := hblk.cell 2
  have q3 := hblk.cell 3
  have q4 := hblk.cell 4
  have q5 := hblk.cell 5
  have q6 := hblk.cell 6
  simp at q0 q1 q2 q3 q4 q5 q6
  refine bodyPost_ret (by simp [results, Try.results16, go_sem, q0, q1, q2, q3, q4, q5, q6]; try rfl) rfl ?_
  exact ⟨⟨_, rfl, hty.mono fun b hb => by
    rcases hb with hb | hb
    · omega
    · exact ⟨by have := hb.1; omega, hb.2⟩⟩, hfin⟩
set_option maxRecDepth 100000 in
set_option maxHeartbeats 4000000 in
theorem Meet_c (a b : Ty) (cs cs' : Array Value) (B : Nat) (w : World) (ha : TyC w B a cs) (hb : TyC w B b cs') (hB : B ≤ w.heap.size) :
    Calls Try.prog 17 #[.agg cs, .agg cs'] w fun e w' => (∃ cs'', e = .returned (.tuple #[.agg cs'', .bool (wholeF false a b).isSome]) ∧ TyM w' (Fresh w w') (getT (wholeF false a b)) cs'') ∧ Below w.heap.size w w' := by
  obtain ⟨na, nc, sa, sc, f, rfl, -⟩ := ha.inv
  obtain ⟨na', nc', sa', sc', f', rfl, -⟩ := hb.inv
  have HA := Lib.hid ha
  have HB := Lib.hid hb
  generalize hR : wholeF false a b = R
  have HR := Lib.hid hR
  generalize hT : getT R = t
  have HTT := Lib.hid hT
  clear ha hb hR hT
  go_enter Try.func17, Try.ntmps17
  simp only [tyCells]
  go_wp2_with fail
  have h3 := boxes3 w #[.int .i64 a.kind, .string a.pkg, .int .i64 a.major, .string a.mod, .string a.name, .slice na a.names.length nc, .slice sa a.subs.length sc] #[.int .i64 b.kind, .string b.pkg, .int .i64 b.major, .string b.mod, .string b.name, .slice na' b.names.length nc', .slice sa' b.subs.length sc'] #[.int .i64 0, .string { data := #[] }, .int .i64 0, .string { data := #[] }, .string { data := #[] }, .slice none 0 0, .slice none 0 0] 25
  generalize (((w.alloc (.cells #[.int .i64 a.kind, .string a.pkg, .int .i64 a.major, .string a.mod, .string a.name, .slice na a.names.length nc, .slice sa a.subs.length sc] 25)).alloc (.cells #[.int .i64 b.kind, .string b.pkg, .int .i64 b.major, .string b.mod, .string b.name, .slice na' b.names.length nc', .slice sa' b.subs.length sc'] 25)).alloc (.cells #[.int .i64 0, .string { data := #[] }, .int .i64 0, .string { data := #[] }, .string { data := #[] }, .slice none 0 0, .slice none 0 0] 25)) = W at h3 ⊢
  obtain ⟨x0, x1, x2, xs, xb⟩ := h3
  have X2 := Lib.hid x2
  have XB := Lib.hid xb
  have hsz := xb.size
  have hA := HA.out.under (xb.mono hB)
  have hB' := HB.out.under (xb.mono hB)
  simp only [tyCells] at hA hB'
  have hBW : B ≤ W.heap.size := Nat.le_trans hB hsz
  have hwc := whole_c a b false _ _ B W hA hB' hBW
  rw [HR.out, HTT.out] at hwc
  refine hwc.mono ?_
  clear hwc
  rintro e w1 ⟨⟨cs3, rfl, ht6⟩, hb1⟩
  obtain ⟨na3, nc3, sa3, sc3, f3, rfl, -⟩ := ht6.inv
  have HT6 := Lib.hid ht6
  have s1 := hb1.size
  have zb := x2.under hb1 x2.lt
  have ZB := Lib.hid zb
  have B1 := Lib.hid hb1
  have z0 := zb.cell 0
  have f0 := zb.free 0
  have z1 := zb.cell 1
  have f1 := zb.free 1
  have z2 := zb.cell 2
  have f2 := zb.free 2
  have z3 := zb.cell 3
  have f3 := zb.free 3
  have z4 := zb.cell 4
  have f4 := zb.free 4
  have z5 := zb.cell 5
  have f5 := zb.free 5
  have z6 := zb.cell 6
  have f6 := zb.free 6
  simp at z0 z1 z2 z3 z4 z5 z6
  simp only [tyCells]
  clear ht6 hb1 zb x0 x1 x2 xb hA hB'
  go_wp2_with fail
  have hfin : Below w.heap.size w (((((((w1.setCell ⟨w.heap.size + 1 + 1, 0, none⟩ (.int .i64 t.kind)).setCell ⟨w.heap.size + 1 + 1, 1, none⟩ (.string t.pkg)).setCell ⟨w.heap.size + 1 + 1, 2, none⟩ (.int .i64 t.major)).setCell ⟨w.heap.size + 1 + 1, 3, none⟩ (.string t.mod)).setCell ⟨w.heap.size + 1 + 1, 4, none⟩ (.string t.name)).setCell ⟨w.heap.size + 1 + 1, 5, none⟩ (.slice na3 t.names.length nc3)).setCell ⟨w.heap.size + 1 + 1, 6, none⟩ (.slice sa3 t.subs.length sc3)) := put7_bel (.int .i64 t.kind) (.string t.pkg) (.int .i64 t.major) (.string t.mod) (.string t.name) (.slice na3 t.names.length nc3) (.slice sa3 t.subs.length sc3) (XB.out.trans (B1.out.mono (by omega))) (by omega)
  have hblk := put7_full (.int .i64 t.kind) (.string t.pkg) (.int .i64 t.major) (.string t.mod) (.string t.name) (.slice na3 t.names.length nc3) (.slice sa3 t.subs.length sc3) ZB.out
  have hty := ty_put7 (B := 0) (g := w.heap.size + 1 + 1) (.int .i64 t.kind) (.string t.pkg) (.int .i64 t.major) (.string t.mod) (.string t.name) (.slice na3 t.names.length nc3) (.slice sa3 t.subs.length sc3) (HT6.out.mono fun b hb => .inr hb) (Nat.zero_le _) (by omega)
  generalize (((((((w1.setCell ⟨w.heap.size + 1 + 1, 0, none⟩ (.int .i64 t.kind)).setCell ⟨w.heap.size + 1 + 1, 1, none⟩ (.string t.pkg)).setCell ⟨w.heap.size + 1 + 1, 2, none⟩ (.int .i64 t.major)).setCell ⟨w.heap.size + 1 + 1, 3, none⟩ (.string t.mod)).setCell ⟨w.heap.size + 1 + 1, 4, none⟩ (.string t.name)).setCell ⟨w.heap.size + 1 + 1, 5, none⟩ (.slice na3 t.names.length nc3)).setCell ⟨w.heap.size + 1 + 1, 6, none⟩ (.slice sa3 t.subs.length sc3)) = Wz at hfin hblk hty ⊢
  have q0 := hblk.cell 0
  have q1 := hblk.cell 1
  have q2 := hblk.cell 2
  have q3 := hblk.cell 3
  have q4 := hblk.cell 4
  have q5 := hblk.cell 5
  have q6 := hblk.cell 6
  simp at q0 q1 q2 q3 q4 q5 q6
  refine bodyPost_ret (by simp [results, Try.results17, go_sem, q0, q1, q2, q3, q4, q5, q6]; try rfl) rfl ?_
  exact ⟨⟨_, rfl, hty.mono fun b hb => by
    rcases hb with hb | hb
    · omega
    · exact ⟨by have := hb.1; omega, hb.2⟩⟩, hfin⟩
end Go.Proofs.Ytalpmjmifcofeaa
namespace Go.Proofs.Ytalpmjmifcofeaa
set_option linter.unusedSimpArgs false
set_option linter.unusedVariables false
def Oks (n : Nat) (t : Ty) : Prop := mayT t = true ∧ deepT t ≤ n
theorem Oks.child {n : Nat} {t s : Ty} (h : Oks (n + 1) t) (hs : s ∈ t.subs) : Oks n s := ⟨may_child h.1 hs, deep_le h.2 hs⟩
theorem kinds (k : Int) (up : Bool) : (k = 4 ∨ k = 7) ∨ isE k up ∨ isB k up ∨ (¬ k = 4 ∧ ¬ k = 5 ∧ ¬ k = 6 ∧ ¬ k = 7) := by
  unfold isE isB
  by_cases h4 : k = 4
  · simp [h4]
  by_cases h7 : k = 7
  · simp [h7]
  by_cases h5 : k = 5
  · cases up <;> simp [h5]
  by_cases h6 : k = 6
  · cases up <;> simp [h6]
  simp [h4, h5, h6, h7]
theorem isE_kind {k : Int} {up : Bool} (h : isE k up) : k = 5 ∨ k = 6 := by
  rcases h with ⟨h, -⟩ | ⟨h, -⟩
  · exact .inr h
  · exact .inl h
theorem isB_kind {k : Int} {up : Bool} (h : isB k up) : k = 5 ∨ k = 6 := by
  rcases h with ⟨h, -⟩ | ⟨h, -⟩
  · exact .inl h
  · exact .inr h
theorem bnd_kind {n : Nat} {up : Bool} {a b x : Ty} (h : bndF (n + 1) up a b = some x) : a.kind = b.kind := by
  by_cases hk : a.kind = b.kind
  · exact hk
  · rw [bndF, if_neg hk] at h; cases h
theorem bnd_parts {n : Nat} {up : Bool} {a b : Ty} (hk : a.kind = b.kind) (h : a.kind = 4 ∨ a.kind = 7) : bndF (n + 1) up a b = partsR (bndF n) up a b := by
  rw [bndF, if_pos hk, if_pos h]
theorem bnd_eith {n : Nat} {up : Bool} {a b : Ty} (hk : a.kind = b.kind) (h : isE a.kind up) : bndF (n + 1) up a b = eitherR (bndF n up) a b := by
  rcases h with ⟨h6, rfl⟩ | ⟨h5, rfl⟩
  · rw [bndF, if_pos hk, if_neg (by omega), if_neg (by omega), if_pos h6, if_pos rfl]
  · rw [bndF, if_pos hk, if_neg (by omega), if_pos h5, if_neg (by decide)]
theorem bnd_both {n : Nat} {up : Bool} {a b : Ty} (hk : a.kind = b.kind) (h : isB a.kind up) : bndF (n + 1) up a b = if a.kind = 6 ∧ (joinR (bndF n up) a b).names.length = 0 then none else some (joinR (bndF n up) a b) := by
  rcases h with ⟨h5, rfl⟩ | ⟨h6, rfl⟩
  · rw [bndF, if_pos hk, if_neg (by omega), if_pos h5, if_pos rfl, if_neg (by omega)]
  · rw [bndF, if_pos hk, if_neg (by omega), if_neg (by omega), if_pos h6, if_neg (by decide)]
    simp [h6]
theorem bnd_leaf {n : Nat} {up : Bool} {a b : Ty} (hk : a.kind = b.kind) (h : ¬ a.kind = 4 ∧ ¬ a.kind = 5 ∧ ¬ a.kind = 6 ∧ ¬ a.kind = 7) : bndF (n + 1) up a b = leafR a b := by
  rw [bndF, if_pos hk, if_neg (by omega), if_neg (by omega), if_neg (by omega)]
theorem le_refl {n : Nat} {up : Bool} {a : Ty} (h : Oks n a) : leF n up a a = true := by
  have := sub_refl n a h.1 h.2
  cases up <;> simpa [leF] using this
theorem le_leaf {n : Nat} {up : Bool} {a c : Ty} (hk : a.kind = c.kind) (h : ¬ a.kind = 4 ∧ ¬ a.kind = 5 ∧ ¬ a.kind = 6 ∧ ¬ a.kind = 7) (hl : leF (n + 1) up a c = true) : a = c := by
  cases up
  · rw [leF, if_neg (by decide), subF, if_pos hk.symm, if_neg (by omega), if_neg (by omega), if_neg (by omega), if_neg (by omega)] at hl
    exact ((alike_iff _ _).1 hl).symm
  · rw [leF, if_pos rfl, subF, if_pos hk, if_neg (by omega), if_neg (by omega), if_neg (by omega), if_neg (by omega)] at hl
    exact (alike_iff _ _).1 hl
theorem le_len {n : Nat} {up : Bool} {a c : Ty} (h47 : a.kind = 4 ∨ a.kind = 7) (ma : mayT a = true) (mc : mayT c = true) (hl : leF (n + 1) up a c = true) : a.subs.length = c.subs.length := by
  have hk := le_kind hl
  rcases h47 with h4 | h7
  · rw [may_list ma h4, may_list mc (hk ▸ h4)]
  · cases up
    · rw [leF, if_neg (by decide), subF, if_pos hk.symm, if_neg (by omega), if_neg (by omega), if_neg (by omega), if_pos (hk ▸ h7), func_iff] at hl
      exact hl.1.symm
    · rw [leF, if_pos rfl, subF, if_pos hk, if_neg (by omega), if_neg (by omega), if_neg (by omega), if_pos h7, func_iff] at hl
      exact hl.1
theorem m_of {a : Ty} (ma : mayT a = true) (h : a.kind = 4 ∨ a.kind = 7) : a.kind = 4 ∧ a.subs.length = 1 ∨ a.kind = 7 ∧ 1 ≤ a.subs.length := by
  rcases h with h | h
  · exact .inl ⟨h, may_list ma h⟩
  · exact .inr ⟨h, may_func ma h⟩
theorem way_eq {up : Bool} {a b : Ty} (hk : a.kind = b.kind) (hl : a.subs.length = b.subs.length) (i : Nat) : wayOf up a i = wayOf up b i := by
  unfold wayOf
  rw [hk, hl]
theorem leaf_refl {c : Ty} (h : mayT c = true) : leafR c c = some c := by
  unfold leafR
  rw [h, (alike_iff c c).2 rfl]
  rfl
theorem leaf_some {a b x : Ty} (h : leafR a b = some x) : a = x ∧ b = x := by
  unfold leafR at h
  split at h
  · rename_i hm
    rw [Bool.and_eq_true] at hm
    have := (alike_iff _ _).1 hm.2
    cases h
    exact ⟨rfl, this.symm⟩
  · cases h
theorem memB_of {s : ByteArray} {l : List ByteArray} (h : s ∈ l) : memB s l = true := (memB_iff _ _).2 h
theorem memB_not {s : ByteArray} {l : List ByteArray} (h : ¬ s ∈ l) : memB s l = false := by
  cases hm : memB s l
  · rfl
  · exact absurd ((memB_iff _ _).1 hm) h
theorem sub_mem {a : Ty} {s : ByteArray} (hl : a.names.length ≤ a.subs.length) (h : s ∈ a.names) : ofT a s ∈ a.subs := ofT_mem (memB_of h) hl
theorem bnd_le : ∀ (n : Nat) (up : Bool) (a b x : Ty), Oks n a → Oks n b → bndF n up a b = some x → leF n up a x = true ∧ leF n up b x = true
  | 0, _, _, _, _, _, _, h => by simp [bndF] at h
  | n + 1, up, a, b, x, oa, ob, h => by
    have IH : ∀ v y z t, y ∈ a.subs → z ∈ b.subs → bndF n v y z = some t → leF n v y t = true ∧ leF n v z t = true := fun v y z t hy hz =>
      bnd_le n v y z t (oa.child hy) (ob.child hz)
    have hk := bnd_kind h
    rcases kinds a.kind up with h47 | hE | hB | h0
    · rw [bnd_parts hk h47] at h
      obtain ⟨hl, L, rfl, hL, hG⟩ := parts_some h
      have key : ∀ i, i < a.subs.length → leF n (wayOf up a i) (a.subs.getD i zeroTy) (L.getD i zeroTy) = true ∧ leF n (wayOf up a i) (b.subs.getD i zeroTy) (L.getD i zeroTy) = true := fun i hi => by
        have := hG i (by omega)
        rw [partG] at this
        have e : L.getD i zeroTy = L[i]'(by omega) := getD_at _
        rw [e]
        exact IH _ _ _ _ (getD_mem hi) (getD_mem (by omega)) this
      refine ⟨?_, ?_⟩
      · exact (le_parts (a := a) (n := n) (m := a.subs.length) (c := .mk a.kind _ 0 _ _ [] L) rfl (m_of oa.1 h47) rfl hL).2 fun i hi => (key i hi).1
      · refine (le_parts (n := n) (m := a.subs.length) (c := .mk a.kind _ 0 _ _ [] L) hk.symm (by rw [← hk]; exact m_of oa.1 h47) hl.symm hL).2 fun i hi => ?_
        rw [← way_eq hk hl]
        exact (key i hi).2
    · rw [bnd_eith hk hE] at h
      obtain ⟨hd, hall⟩ := eith_desc h
      obtain ⟨L, hx, -⟩ := eith_some h
      have hkx : x.kind = a.kind := by rw [hx]; rfl
      have ra := may_rows oa.1 (isE_kind hE)
      have rb := may_rows ob.1 (isE_kind (hk ▸ hE))
      refine ⟨(le_eith hkx.symm hE ra.rise (may_same oa.1 (isE_kind hE)).symm).2 fun s hs => ⟨hall s (.inl hs), ?_⟩, (le_eith (hk.symm.trans hkx.symm) (hk ▸ hE) rb.rise (may_same ob.1 (isE_kind (hk ▸ hE))).symm).2 fun s hs => ⟨hall s (.inr hs), ?_⟩⟩
      · have hv := hd.val s (hall s (.inl hs))
        rw [eithH, memB_of hs, Bool.true_or, if_pos rfl, eithE, memB_of hs] at hv
        by_cases hb : s ∈ b.names
        · rw [memB_of hb, if_pos rfl, if_pos rfl] at hv
          exact (IH _ _ _ _ (sub_mem ra.len hs) (sub_mem rb.len hb) hv).1
        · rw [memB_not hb, if_neg (by decide)] at hv
          rw [← Option.some.inj hv]
          exact le_refl (oa.child (sub_mem ra.len hs))
      · have hv := hd.val s (hall s (.inr hs))
        rw [eithH, memB_of hs, Bool.or_true, if_pos rfl, eithE, memB_of hs, if_pos rfl] at hv
        by_cases ha : s ∈ a.names
        · rw [memB_of ha, if_pos rfl] at hv
          exact (IH _ _ _ _ (sub_mem ra.len ha) (sub_mem rb.len hs) hv).2
        · rw [memB_not ha, if_neg (by decide)] at hv
          rw [← Option.some.inj hv]
          exact le_refl (ob.child (sub_mem rb.len hs))
    · rw [bnd_both hk hB] at h
      split at h
      · cases h
      obtain rfl := Option.some.inj h
      have ra := may_rows oa.1 (isB_kind hB)
      have rb := may_rows ob.1 (isB_kind (hk ▸ hB))
      have hd := join_desc (r := bndF n up) (b := b) ra.rise ra.len
      have key : ∀ s, s ∈ (joinR (bndF n up) a b).names → s ∈ a.names ∧ s ∈ b.names ∧ bndF n up (ofT a s) (ofT b s) = some (ofT (joinR (bndF n up) a b) s) := fun s hs => by
        have hv := hd.val s hs
        unfold bothG at hv
        split at hv
        · rename_i hm
          rw [Bool.and_eq_true] at hm
          exact ⟨(memB_iff _ _).1 hm.1, (memB_iff _ _).1 hm.2, hv⟩
        · cases hv
      refine ⟨(le_both (a := a) (c := joinR (bndF n up) a b) rfl hB hd.rise hd.len).2 fun s hs => ?_, (le_both (c := joinR (bndF n up) a b) hk.symm (hk ▸ hB) hd.rise hd.len).2 fun s hs => ?_⟩
      · obtain ⟨h1, h2, h3⟩ := key s hs
        exact ⟨h1, (IH _ _ _ _ (sub_mem ra.len h1) (sub_mem rb.len h2) h3).1⟩
      · obtain ⟨h1, h2, h3⟩ := key s hs
        exact ⟨h2, (IH _ _ _ _ (sub_mem ra.len h1) (sub_mem rb.len h2) h3).2⟩
    · rw [bnd_leaf hk h0] at h
      obtain ⟨rfl, rfl⟩ := leaf_some h
      exact ⟨le_refl oa, le_refl oa⟩
theorem bnd_least : ∀ (n : Nat) (up : Bool) (a b c : Ty), Oks n a → Oks n b → Oks n c → leF n up a c = true → leF n up b c = true → ∃ x, bndF n up a b = some x ∧ leF n up x c = true
  | 0, _, a, _, _, oa, _, _, _, _ => by have := deep_bound a; have := oa.2; omega
  | n + 1, up, a, b, c, oa, ob, oc, hac, hbc => by
    have IH : ∀ v y z t, y ∈ a.subs → z ∈ b.subs → t ∈ c.subs → leF n v y t = true → leF n v z t = true → ∃ x, bndF n v y z = some x ∧ leF n v x t = true := fun v y z t hy hz ht =>
      bnd_least n v y z t (oa.child hy) (ob.child hz) (oc.child ht)
    have k1 := le_kind hac
    have k2 := le_kind hbc
    have hk : a.kind = b.kind := k1.trans k2.symm
    rcases kinds a.kind up with h47 | hE | hB | h0
    · rw [bnd_parts hk h47]
      have l1 := le_len h47 oa.1 oc.1 hac
      have l2 := le_len (hk ▸ h47) ob.1 oc.1 hbc
      have p1 := (le_parts (m := a.subs.length) k1 (m_of oa.1 h47) rfl l1.symm).1 hac
      have p2 := (le_parts (m := a.subs.length) k2 (by rw [← hk]; exact m_of oa.1 h47) (by omega) l1.symm).1 hbc
      have key : ∀ i, i < a.subs.length → ∃ x, partG (bndF n) up a b i = some x ∧ leF n (wayOf up a i) x (c.subs.getD i zeroTy) = true := fun i hi => by
        have q2 := p2 i hi
        rw [← way_eq hk (by omega)] at q2
        exact IH _ _ _ _ (getD_mem hi) (getD_mem (by omega)) (getD_mem (by omega)) (p1 i hi) q2
      obtain ⟨x, hx⟩ := parts_ex (r := bndF n) (up := up) (a := a) (b := b) (by omega) fun i hi => by
        obtain ⟨x, hx, -⟩ := key i hi
        rw [hx]; rfl
      refine ⟨x, hx, ?_⟩
      obtain ⟨-, L, rfl, hL, hG⟩ := parts_some hx
      refine (le_parts (a := .mk a.kind _ 0 _ _ [] L) (m := a.subs.length) k1 (m_of oa.1 h47) hL l1.symm).2 fun i hi => ?_
      obtain ⟨y, hy, hly⟩ := key i hi
      rw [hG i (by omega)] at hy
      have e : (Ty.mk a.kind { data := #[] } 0 { data := #[] } { data := #[] } [] L).subs.getD i zeroTy = y := by
        show L.getD i zeroTy = y
        rw [getD_at (by omega)]
        exact Option.some.inj hy
      rw [e, ← way_eq (a := a) (b := .mk a.kind _ 0 _ _ [] L) rfl hL.symm]
      exact hly
    · rw [bnd_eith hk hE]
      have ra := may_rows oa.1 (isE_kind hE)
      have rb := may_rows ob.1 (isE_kind (hk ▸ hE))
      have rc := may_rows oc.1 (isE_kind (k1 ▸ hE))
      have p1 := (le_eith k1 hE ra.rise (may_same oa.1 (isE_kind hE)).symm).1 hac
      have p2 := (le_eith k2 (hk ▸ hE) rb.rise (may_same ob.1 (isE_kind (hk ▸ hE))).symm).1 hbc
      have key : ∀ s, s ∈ a.names ∨ s ∈ b.names → s ∈ c.names ∧ ∃ x, eithE (bndF n up) a b s = some x ∧ leF n up x (ofT c s) = true := fun s hs => by
        unfold eithE
        by_cases hb : s ∈ b.names
        · by_cases ha : s ∈ a.names
          · rw [memB_of hb, memB_of ha, if_pos rfl, if_pos rfl]
            exact ⟨(p1 s ha).1, IH _ _ _ _ (sub_mem ra.len ha) (sub_mem rb.len hb) (sub_mem rc.len (p1 s ha).1) (p1 s ha).2 (p2 s hb).2⟩
          · rw [memB_of hb, memB_not ha, if_pos rfl, if_neg (by decide)]
            exact ⟨(p2 s hb).1, _, rfl, (p2 s hb).2⟩
        · have ha : s ∈ a.names := hs.resolve_right hb
          rw [memB_not hb, if_neg (by decide)]
          exact ⟨(p1 s ha).1, _, rfl, (p1 s ha).2⟩
      obtain ⟨x, hx⟩ := eith_all (r := bndF n up) (a := a) (b := b) fun s hs => by
        obtain ⟨-, x, hx, -⟩ := key s hs
        rw [hx]; rfl
      refine ⟨x, hx, ?_⟩
      obtain ⟨hd, -⟩ := eith_desc hx
      obtain ⟨L, hxL, -⟩ := eith_some hx
      have hkx : x.kind = a.kind := by rw [hxL]; rfl
      refine (le_eith (hkx.trans k1) (by rw [hkx]; exact hE) hd.rise hd.len).2 fun s hs => ?_
      have hv := hd.val s hs
      unfold eithH at hv
      split at hv
      · rename_i hm
        have hm' : s ∈ a.names ∨ s ∈ b.names := by simpa [memB_iff] using hm
        obtain ⟨h1, y, hy, hly⟩ := key s hm'
        rw [hv] at hy
        rw [Option.some.inj hy]
        exact ⟨h1, hly⟩
      · cases hv
    · rw [bnd_both hk hB]
      have ra := may_rows oa.1 (isB_kind hB)
      have rb := may_rows ob.1 (isB_kind (hk ▸ hB))
      have rc := may_rows oc.1 (isB_kind (k1 ▸ hB))
      have lc := may_same oc.1 (isB_kind (k1 ▸ hB))
      have p1 := (le_both k1 hB rc.rise lc.symm).1 hac
      have p2 := (le_both k2 (hk ▸ hB) rc.rise lc.symm).1 hbc
      have hd := join_desc (r := bndF n up) (b := b) ra.rise ra.len
      have key : ∀ s, s ∈ c.names → ∃ x, bothG (bndF n up) a b s = some x ∧ leF n up x (ofT c s) = true := fun s hs => by
        obtain ⟨x, hx, hl⟩ := IH _ _ _ _ (sub_mem ra.len (p1 s hs).1) (sub_mem rb.len (p2 s hs).1) (sub_mem rc.len hs) (p1 s hs).2 (p2 s hs).2
        exact ⟨x, by rw [bothG, memB_of (p1 s hs).1, memB_of (p2 s hs).1]; exact hx, hl⟩
      rw [if_neg ?_]
      · refine ⟨_, rfl, (le_both (a := joinR (bndF n up) a b) k1 hB rc.rise lc.symm).2 fun s hs => ?_⟩
        obtain ⟨x, hx, hl⟩ := key s hs
        have hm := hd.has s x hx
        have hv := hd.val s hm
        rw [hx] at hv
        rw [← Option.some.inj hv]
        exact ⟨hm, hl⟩
      · rintro ⟨h6, h0⟩
        have hn : 0 < c.names.length := by
          have := may_kind oc.1
          simp [kindB, k1 ▸ h6] at this
          omega
        obtain ⟨x, hx, -⟩ := key _ (List.getElem_mem hn)
        have := hd.has _ _ hx
        rw [List.eq_nil_of_length_eq_zero h0] at this
        cases this
    · rw [bnd_leaf hk h0]
      have e2 := le_leaf k2 (by rw [← hk]; exact h0) hbc
      have e1 := le_leaf k1 h0 hac
      subst e1
      subst e2
      exact ⟨_, leaf_refl oa.1, hac⟩
end Go.Proofs.Ytalpmjmifcofeaa
namespace Go.Proofs.Ytalpmjmifcofeaa
open Go.RowKit
set_option linter.unusedSimpArgs false
set_option linter.unusedVariables false
def sumW (f : ByteArray → Int) : List ByteArray → Int
  | [] => 0
  | s :: l => f s + sumW f l
theorem sumW_le {f g : ByteArray → Int} (h : ∀ s, f s ≤ g s) : ∀ l : List ByteArray, sumW f l ≤ sumW g l
  | [] => Int.le_refl 0
  | s :: l => by have := h s; have := sumW_le h l; simp only [sumW]; omega
theorem sumW_add (f g : ByteArray → Int) : ∀ l : List ByteArray, sumW (fun s => f s + g s) l = sumW f l + sumW g l
  | [] => rfl
  | s :: l => by have := sumW_add f g l; simp only [sumW]; omega
theorem sumW_zero {f : ByteArray → Int} : ∀ l : List ByteArray, (∀ s ∈ l, f s = 0) → sumW f l = 0
  | [], _ => rfl
  | s :: l, h => by
    have h1 := h s (by simp)
    have h2 := sumW_zero l fun x hx => h x (by simp [hx])
    simp only [sumW]; omega
theorem sumW_one (n : ByteArray) (v : Int) (hv : 0 ≤ v) : ∀ l : List ByteArray, l.Pairwise (fun x y => x ≠ y) → sumW (fun s => if n = s then v else 0) l ≤ v
  | [], _ => hv
  | s :: l, h => by
    obtain ⟨h1, h2⟩ := List.pairwise_cons.1 h
    simp only [sumW]
    by_cases hs : n = s
    · have := sumW_zero (f := fun s => if n = s then v else 0) l fun x hx => by
        rw [if_neg]; intro e; exact h1 x hx (hs.symm.trans e)
      rw [if_pos hs]; omega
    · have := sumW_one n v hv l h2
      rw [if_neg hs]; omega
def wtL : List ByteArray → List Ty → ByteArray → Int
  | n :: ns, t :: ts, s => if n = s then manyT t else wtL ns ts s
  | _, _, _ => 0
theorem wtL_pos : ∀ (ns : List ByteArray) (ts : List Ty) (s : ByteArray), 0 ≤ wtL ns ts s
  | [], _, _ => by simp [wtL]
  | _ :: _, [], _ => by simp [wtL]
  | n :: ns, t :: ts, s => by
    have := many_pos t; have := wtL_pos ns ts s
    rw [wtL]; split <;> omega
theorem wtL_sum : ∀ (ns : List ByteArray) (ts : List Ty) (U : List ByteArray), U.Pairwise (fun x y => x ≠ y) → sumW (wtL ns ts) U ≤ manyL ts
  | [], ts, U, _ => by
    rw [sumW_zero U fun s _ => by simp [wtL]]; exact manyL_pos ts
  | _ :: _, [], U, _ => by
    rw [sumW_zero U fun s _ => by simp [wtL]]; exact manyL_pos []
  | n :: ns, t :: ts, U, h => by
    have h1 := wtL_sum ns ts U h
    have h2 := sumW_one n (manyT t) (by have := many_pos t; omega) U h
    have h3 := sumW_le (f := wtL (n :: ns) (t :: ts)) (g := fun s => (if n = s then manyT t else 0) + wtL ns ts s) (fun s => by
      have := wtL_pos ns ts s
      rw [wtL]; split <;> omega) U
    rw [sumW_add] at h3
    rw [manyL]; omega
theorem wtL_get : ∀ (ns : List ByteArray) (ts : List Ty) (i : Nat) (h : i < ns.length) (h' : i < ts.length), ns.Pairwise (fun x y => x ≠ y) → wtL ns ts ns[i] = manyT ts[i]
  | [], _, i, h, _, _ => by simp at h
  | _ :: _, [], i, _, h, _ => by simp at h
  | n :: ns, t :: ts, 0, _, _, _ => by simp [wtL]
  | n :: ns, t :: ts, i + 1, h, h', hp => by
    obtain ⟨h1, h2⟩ := List.pairwise_cons.1 hp
    have := wtL_get ns ts i (by simpa using h) (by simpa using h') h2
    simp only [List.getElem_cons_succ, wtL]
    rw [if_neg (h1 _ (List.getElem_mem _)), this]
theorem rise_ne {l : List ByteArray} (h : riseB l = true) : l.Pairwise (fun x y => x ≠ y) := by
  refine ((rise_pair l).1 h).imp fun {x y} hxy e => ?_
  rw [e, ltB_irrefl] at hxy
  cases hxy
theorem wt_of {t : Ty} (hr : riseB t.names = true) (hl : t.names.length ≤ t.subs.length) {s : ByteArray} (hs : s ∈ t.names) : wtL t.names t.subs s = manyT (ofT t s) := by
  obtain ⟨i, hi, rfl⟩ := List.getElem_of_mem hs
  rw [ofT_get hr hl hi, wtL_get _ _ i hi (by omega) (rise_ne hr)]
theorem manyL_sum (f : ByteArray → Int) : ∀ (ns : List ByteArray) (ts : List Ty), ns.length = ts.length → (∀ i (h : i < ns.length) (h' : i < ts.length), manyT ts[i] ≤ f ns[i]) → manyL ts ≤ sumW f ns
  | [], [], _, _ => by rw [manyL, sumW]; exact Int.le_refl 0
  | n :: ns, [], h, _ => by simp at h
  | [], t :: ts, h, _ => by simp at h
  | n :: ns, t :: ts, h, hf => by
    have h0 := hf 0 (by simp) (by simp)
    have h1 := manyL_sum f ns ts (by simpa using h) fun i hi hi' => by
      have := hf (i + 1) (by simpa using hi) (by simpa using hi')
      simpa using this
    simp only [List.getElem_cons_zero] at h0
    rw [manyL, sumW]; omega
theorem manyL_two : ∀ (L A B : List Ty), L.length = A.length → L.length = B.length → (∀ i (h : i < L.length), manyT L[i] ≤ manyT (A.getD i zeroTy) + manyT (B.getD i zeroTy)) → manyL L ≤ manyL A + manyL B
  | [], A, B, _, _, _ => by have := manyL_pos A; have := manyL_pos B; rw [manyL]; omega
  | _ :: _, [], _, h, _, _ => by simp at h
  | _ :: _, _ :: _, [], _, h, _ => by simp at h
  | t :: L, x :: A, y :: B, ha, hb, h => by
    have h0 := h 0 (by simp)
    have h1 := manyL_two L A B (by simpa using ha) (by simpa using hb) fun i hi => by
      have := h (i + 1) (by simpa using hi)
      simpa using this
    simp at h0
    rw [manyL, manyL, manyL]; omega
theorem desc_many {x a b : Ty} {g : ByteArray → Option Ty} (hd : Desc x g) (hg : ∀ s t, g s = some t → manyT t ≤ wtL a.names a.subs s + wtL b.names b.subs s) : manyT x ≤ manyT a + manyT b := by
  have hu := rise_ne hd.rise
  have h1 := wtL_sum a.names a.subs x.names hu
  have h2 := wtL_sum b.names b.subs x.names hu
  have h3 := manyL_sum (fun s => wtL a.names a.subs s + wtL b.names b.subs s) x.names x.subs hd.len fun i hi hi' => by
    have h4 := hd.val _ (List.getElem_mem hi)
    rw [ofT_get hd.rise (Nat.le_of_eq hd.len) hi] at h4
    exact hg _ _ h4
  rw [sumW_add] at h3
  rw [manyT_eq x, manyT_eq a, manyT_eq b]
  omega
theorem bnd_many : ∀ (n : Nat) (up : Bool) (a b x : Ty), Oks n a → Oks n b → bndF n up a b = some x → manyT x ≤ manyT a + manyT b
  | 0, _, _, _, _, _, _, h => by simp [bndF] at h
  | n + 1, up, a, b, x, oa, ob, h => by
    have IH : ∀ v y z t, y ∈ a.subs → z ∈ b.subs → bndF n v y z = some t → manyT t ≤ manyT y + manyT z := fun v y z t hy hz =>
      bnd_many n v y z t (oa.child hy) (ob.child hz)
    have hk := bnd_kind h
    rcases kinds a.kind up with h47 | hE | hB | h0
    · rw [bnd_parts hk h47] at h
      obtain ⟨hl, L, rfl, hL, hG⟩ := parts_some h
      have := manyL_two L a.subs b.subs hL (by omega) fun i hi => IH _ _ _ _ (getD_mem (by omega)) (getD_mem (by omega)) (hG i hi)
      rw [manyT_eq a, manyT_eq b, manyT]
      omega
    · rw [bnd_eith hk hE] at h
      obtain ⟨hd, -⟩ := eith_desc h
      have ra := may_rows oa.1 (isE_kind hE)
      have rb := may_rows ob.1 (isE_kind (hk ▸ hE))
      refine desc_many hd fun s t ht => ?_
      have pa := wtL_pos a.names a.subs s
      have pb := wtL_pos b.names b.subs s
      unfold eithH at ht
      split at ht
      · rename_i hm
        have hm : s ∈ a.names ∨ s ∈ b.names := by simpa [memB_iff] using hm
        unfold eithE at ht
        by_cases hb : s ∈ b.names
        · by_cases ha : s ∈ a.names
          · rw [memB_of hb, memB_of ha, if_pos rfl, if_pos rfl] at ht
            rw [wt_of ra.rise ra.len ha, wt_of rb.rise rb.len hb]
            exact IH _ _ _ _ (sub_mem ra.len ha) (sub_mem rb.len hb) ht
          · rw [memB_of hb, memB_not ha, if_pos rfl, if_neg (by decide)] at ht
            rw [← Option.some.inj ht, wt_of rb.rise rb.len hb]
            omega
        · rw [memB_not hb, if_neg (by decide)] at ht
          rw [← Option.some.inj ht, wt_of ra.rise ra.len (hm.resolve_right hb)]
          omega
      · cases ht
    · rw [bnd_both hk hB] at h
      split at h
      · cases h
      obtain rfl := Option.some.inj h
      have ra := may_rows oa.1 (isB_kind hB)
      have rb := may_rows ob.1 (isB_kind (hk ▸ hB))
      refine desc_many (join_desc (r := bndF n up) (b := b) ra.rise ra.len) fun s t ht => ?_
      unfold bothG at ht
      split at ht
      · rename_i hm
        rw [Bool.and_eq_true] at hm
        have ha := (memB_iff _ _).1 hm.1
        have hb := (memB_iff _ _).1 hm.2
        rw [wt_of ra.rise ra.len ha, wt_of rb.rise rb.len hb]
        exact IH _ _ _ _ (sub_mem ra.len ha) (sub_mem rb.len hb) ht
      · cases ht
    · rw [bnd_leaf hk h0] at h
      obtain ⟨e1, e2⟩ := leaf_some h
      have := many_pos x
      rw [e1, e2]
      omega
end Go.Proofs.Ytalpmjmifcofeaa
namespace Go.Proofs.Ytalpmjmifcofeaa
open Go.RowKit
set_option linter.unusedSimpArgs false
set_option linter.unusedVariables false
theorem rbound_c : ∀ (n : Nat) (up : Bool) (a b : Ty), mayT a = true → mayT b = true → deepT a ≤ n → deepT b ≤ n → RBoundAt a b up (bndF n up a b)
  | 0, _, a, _, _, _, hd, _ => by have := deep_bound a; omega
  | n + 1, up, a, b, ma, mb, da, db => by
    have IH : ∀ v x y, x ∈ a.subs → y ∈ b.subs → RBoundAt x y v (bndF n v x y) := fun v x y hx hy =>
      rbound_c n v x y (may_child ma hx) (may_child mb hy) (by have := deep_child hx; omega) (by have := deep_child hy; omega)
    unfold bndF
    by_cases hk : a.kind = b.kind
    · rw [if_pos hk]
      by_cases h47 : a.kind = 4 ∨ a.kind = 7
      · rw [if_pos h47]
        rcases h47 with h | h
        · exact rbound_parts4 (bndF n) a b up h (hk ▸ h) (may_small ma) fun x y v hx hy => IH v x y hx hy
        · exact rbound_parts7 (bndF n) a b up h (hk ▸ h) (may_small ma) fun x y v hx hy => IH v x y hx hy
      · rw [if_neg h47]
        by_cases h5 : a.kind = 5
        · rw [if_pos h5]
          have hb5 : b.kind = 5 := hk ▸ h5
          have R := rbound_rows5 (bndF n up) a b up (!up) rfl h5 hb5 (may_rows ma (.inl h5)) (may_rows mb (.inl hb5)) (may_small ma) (may_small mb) (may_same ma (.inl h5)).symm (may_same mb (.inl hb5)).symm fun x y hx hy => IH up x y hx hy
          cases up
          · rw [if_neg (by simp)]
            rw [rowsR, if_pos (show (!false) = true from rfl)] at R
            exact R
          · rw [if_pos rfl]
            rw [rowsR, if_neg (show ¬ (!true) = true by simp), if_neg (by rw [h5]; simp)] at R
            exact R
        · rw [if_neg h5]
          by_cases h6 : a.kind = 6
          · rw [if_pos h6]
            have hb6 : b.kind = 6 := hk ▸ h6
            have h0 : 0 < a.names.length := by
              have h1 := may_kind ma
              simp [kindB, h6] at h1
              have h2 := may_same ma (.inr h6)
              omega
            have R := rbound_rows6 (bndF n up) a b up h6 hb6 (may_rows ma (.inr h6)) (may_rows mb (.inr hb6)) (may_small ma) (may_small mb) (may_same ma (.inr h6)).symm (may_same mb (.inr hb6)).symm h0 fun x y hx hy => IH up x y hx hy
            cases up
            · rw [if_neg (by simp)]
              rw [rowsR, if_neg (by simp)] at R
              simpa only [h6, true_and] using R
            · rw [if_pos rfl]
              rw [rowsR, if_pos rfl] at R
              exact R
          · rw [if_neg h6]
            exact rbound_leaf a b up ma mb hk (fun h => h47 (.inl h)) h5 h6 (fun h => h47 (.inr h))
    · rw [if_neg hk]
      exact rbound_diff a b up hk
end Go.Proofs.Ytalpmjmifcofeaa
namespace Go.Proofs.Ytalpmjmifcofeaa
open Go.RowKit
set_option linter.unusedSimpArgs false
set_option linter.unusedVariables false
/-- a box of seven cells, cell by cell -/
theorem cells7 {w : World} {b : Nat} {T : TypeId} {v0 v1 v2 v3 v4 v5 v6 : Value} (h : Blk w b #[v0, v1, v2, v3, v4, v5, v6] T) :
    w.cell? ⟨b, 0, none⟩ = some v0 ∧ w.cell? ⟨b, 1, none⟩ = some v1 ∧ w.cell? ⟨b, 2, none⟩ = some v2 ∧ w.cell? ⟨b, 3, none⟩ = some v3 ∧ w.cell? ⟨b, 4, none⟩ = some v4 ∧ w.cell? ⟨b, 5, none⟩ = some v5 ∧ w.cell? ⟨b, 6, none⟩ = some v6 :=
  ⟨h.cell 0, h.cell 1, h.cell 2, h.cell 3, h.cell 4, h.cell 5, h.cell 6⟩
/-- all blocks but one are kept -/
structure Exc (k : Nat) (w w' : World) : Prop where
  os : w'.os = w.os
  tape : w'.tape = w.tape
  output : w'.output = w.output
  size : w.heap.size ≤ w'.heap.size
  block : ∀ b, b < w.heap.size → b ≠ k → w'.heap[b]? = w.heap[b]?
theorem Exc.of_below {k : Nat} {w w' : World} (h : Below w.heap.size w w') : Exc k w w' := ⟨h.os, h.tape, h.output, h.size, fun b hb _ => h.block b hb⟩
theorem Exc.set {k : Nat} {w w' : World} (h : Exc k w w') (j : Nat) (v : Value) : Exc k w (w'.setCell ⟨k, j, none⟩ v) :=
  ⟨h.os, h.tape, h.output, by have := h.size; simpa using this, fun b hb hn => (Below.heap_setCell w' ⟨k, j, none⟩ v b hn).trans (h.block b hb hn)⟩
theorem Exc.put {k : Nat} {w w' : World} (h : Exc k w w') (v0 v1 v2 v3 v4 v5 v6 : Value) :
    Exc k w (((((((w'.setCell ⟨k, 0, none⟩ v0).setCell ⟨k, 1, none⟩ v1).setCell ⟨k, 2, none⟩ v2).setCell ⟨k, 3, none⟩ v3).setCell ⟨k, 4, none⟩ v4).setCell ⟨k, 5, none⟩ v5).setCell ⟨k, 6, none⟩ v6) :=
  ((((((h.set 0 v0).set 1 v1).set 2 v2).set 3 v3).set 4 v4).set 5 v5).set 6 v6
theorem Exc.drew {k : Nat} {w w' : World} (h : Exc k w w') : Exc k w w'.drew := ⟨h.os, h.tape, h.output, h.size, h.block⟩
theorem Exc.below {k : Nat} {w w' : World} (h : Exc k w w') (hk : k ≤ w.heap.size) : Below k w w' := ⟨h.os, h.tape, h.output, h.size, fun b hb => h.block b (by omega) (by omega)⟩
theorem Exc.blk {k b : Nat} {w w' : World} {C : Array Value} {T : TypeId} (h : Exc k w w') (hb : Blk w b C T) (hn : b ≠ k) : Blk w' b C T := (h.block b hb.lt hn).trans hb
theorem Exc.cell {k : Nat} {w w' : World} (h : Exc k w w') (p : Addr) (hp : p.block < w.heap.size) (hn : p.block ≠ k) : w'.cell? p = w.cell? p := by
  unfold World.cell?
  rw [h.block _ hp hn]
theorem no_plain {a b : Ty} (h : PlainB a = false ∨ PlainB b = false) : wholeF true a b = none ∧ wholeF false a b = none ∧ JoinsB a b = false := by
  have h' : (PlainB a && PlainB b) = false := by rcases h with h | h <;> simp [h]
  refine ⟨?_, ?_, ?_⟩
  · rw [wholeF, h']; rfl
  · rw [wholeF, h']; rfl
  · rw [JoinsB, ← Bool.and_assoc, h']; rfl
theorem flag_tells {X p : Ty} {RB : Option Ty} {is jn : Bool} (h : (RB = none ∧ X = zeroTy ∧ is = false) ∨ (∃ t, RB = some t ∧ manyT t ≤ 1000000000 ∧ ((mayT t = false ∧ X = zeroTy ∧ is = false) ∨ (mayT t = true ∧ X = t ∧ is = true)))) (hp : ∀ x, RB = some x → p = x) (hj : RB.isSome = jn) :
    (is = false → X = zeroTy) ∧ (is = true → X = p ∧ jn = true) := by
  rcases h with ⟨rfl, h1, rfl⟩ | ⟨t, rfl, -, ⟨-, h1, rfl⟩ | ⟨-, h1, rfl⟩⟩
  · exact ⟨fun _ => h1, fun h => by cases h⟩
  · exact ⟨fun _ => h1, fun h => by cases h⟩
  · exact ⟨fun h => (by cases h), fun _ => ⟨h1.trans (hp t rfl).symm, hj.symm⟩⟩
theorem bound_cases {up : Bool} {a b X : Ty} {R RB : Option Ty} {is : Bool} (fa : FewB a = true) (fb : FewB b = true) (pa : PlainB a = true) (pb : PlainB b = true) (hR : wholeF up a b = R) (hX : getT R = X) (hI : R.isSome = is) (hRB : bndF 32 up a b = RB) :
    (RB = none ∧ X = zeroTy ∧ is = false) ∨ (∃ t, RB = some t ∧ manyT t ≤ 1000000000 ∧ ((mayT t = false ∧ X = zeroTy ∧ is = false) ∨ (mayT t = true ∧ X = t ∧ is = true))) := by
  subst hX hI
  rw [wholeF, pa, pb, hRB] at hR
  cases RB with
  | none => exact .inl ⟨rfl, by rw [← hR]; rfl, by rw [← hR]; rfl⟩
  | some t =>
    have hm := bnd_many 32 up a b t ⟨plain_may pa, may_deep (plain_may pa)⟩ ⟨plain_may pb, may_deep (plain_may pb)⟩ hRB
    have h1 := few_many a fa
    have h2 := few_many b fb
    refine .inr ⟨t, rfl, by omega, ?_⟩
    cases ht : mayT t
    · exact .inl ⟨rfl, by rw [← hR]; simp [ht]; rfl, by rw [← hR]; simp [ht]⟩
    · exact .inr ⟨rfl, by rw [← hR]; simp [ht]; rfl, by rw [← hR]; simp [ht]⟩
set_option maxRecDepth 100000 in
set_option maxHeartbeats 40000000 in
theorem bounds_c (a b : Ty) (cs cs' : Array Value) (B : Nat) (w : World) (ha : TyC w B a cs) (hb : TyC w B b cs') (hB : B ≤ w.heap.size) :
    Calls Try.prog 7 #[.agg cs, .agg cs'] w fun e w' => e = .returned (.bool true) ∧ Below w.heap.size w w' := by
  obtain ⟨na, nc, sa, sc, f, rfl, -⟩ := ha.inv
  obtain ⟨na', nc', sa', sc', f', rfl, -⟩ := hb.inv
  have HA := Lib.hid ha
  have HB := Lib.hid hb
  clear ha hb
  go_enter Try.func7, Try.ntmps7
  simp only [tyCells]
  go_wp2_with fail
  have h2 := boxes2 w #[.int .i64 a.kind, .string a.pkg, .int .i64 a.major, .string a.mod, .string a.name, .slice na a.names.length nc, .slice sa a.subs.length sc] #[.int .i64 b.kind, .string b.pkg, .int .i64 b.major, .string b.mod, .string b.name, .slice na' b.names.length nc', .slice sa' b.subs.length sc'] 25
  generalize ((w.alloc (.cells #[.int .i64 a.kind, .string a.pkg, .int .i64 a.major, .string a.mod, .string a.name, .slice na a.names.length nc, .slice sa a.subs.length sc] 25)).alloc (.cells #[.int .i64 b.kind, .string b.pkg, .int .i64 b.major, .string b.mod, .string b.name, .slice na' b.names.length nc', .slice sa' b.subs.length sc'] 25)) = W at h2 ⊢
  obtain ⟨x0, x1, xs, xb⟩ := h2
  have hA := (HA.out.under (xb.mono hB)).mono (show B ≤ W.heap.size by omega)
  have hB' := (HB.out.under (xb.mono hB)).mono (show B ≤ W.heap.size by omega)
  simp only [tyCells] at hA hB'
  have TA := Lib.hid hA
  have TB := Lib.hid hB'
  have BA := Lib.hid x0
  have BB := Lib.hid x1
  have HBW := Lib.hid xb
  clear x0 x1 xs xb hA hB' HA HB
  refine (up_c W).mono ?_
  rintro e w1 ⟨rfl, hb⟩
  have A1 := Lib.hid hb
  clear hb
  have kA := BA.out.under A1.out BA.out.lt
  obtain ⟨ax0, ax1, ax2, ax3, ax4, ax5, ax6⟩ := cells7 kA
  have lA := kA.lt
  clear kA
  go_wp2_with fail
  refine (Few_c a _ W.heap.size w1 (TA.out.under A1.out) A1.out.size).mono ?_
  rintro e w2 ⟨rfl, hb⟩
  clear ax0 ax1 ax2 ax3 ax4 ax5 ax6 lA
  have A2 := Lib.hid (A1.out.trans (hb.mono A1.out.size))
  clear hb
  have kB := BB.out.under A2.out BB.out.lt
  obtain ⟨bx0, bx1, bx2, bx3, bx4, bx5, bx6⟩ := cells7 kB
  have lB := kB.lt
  clear kB
  go_wp2_with fail
  refine (Few_c b _ W.heap.size w2 (TB.out.under A2.out) A2.out.size).mono ?_
  rintro e w3 ⟨rfl, hb⟩
  clear bx0 bx1 bx2 bx3 bx4 bx5 bx6 lB
  have A3 := Lib.hid (A2.out.trans (hb.mono A2.out.size))
  clear hb
  have kA := BA.out.under A3.out BA.out.lt
  obtain ⟨ax0, ax1, ax2, ax3, ax4, ax5, ax6⟩ := cells7 kA
  have lA := kA.lt
  have kB := BB.out.under A3.out BB.out.lt
  obtain ⟨bx0, bx1, bx2, bx3, bx4, bx5, bx6⟩ := cells7 kB
  have lB := kB.lt
  clear kA kB
  cases fa : FewB a
  · go_wp2_with fail
    go_ret
    exact ⟨rfl, acc0 HBW.out HBW.out.size A3.out⟩
  have FA := Lib.hid fa
  clear fa
  cases fb : FewB b
  · go_wp2_with fail
    go_ret
    exact ⟨rfl, acc0 HBW.out HBW.out.size A3.out⟩
  have FB := Lib.hid fb
  clear fb
  obtain ⟨R, hR⟩ : ∃ R, wholeF true a b = R := ⟨_, rfl⟩
  obtain ⟨S, hS⟩ : ∃ S, wholeF false a b = S := ⟨_, rfl⟩
  obtain ⟨X, hX⟩ : ∃ X, getT R = X := ⟨_, rfl⟩
  obtain ⟨Y, hY⟩ : ∃ Y, getT S = Y := ⟨_, rfl⟩
  obtain ⟨is, hi⟩ : ∃ v, R.isSome = v := ⟨_, rfl⟩
  obtain ⟨was, hwas⟩ : ∃ v, S.isSome = v := ⟨_, rfl⟩
  have HR := Lib.hid hR
  have HS := Lib.hid hS
  have HX := Lib.hid hX
  have HY := Lib.hid hY
  have HI := Lib.hid hi
  have HW := Lib.hid hwas
  clear hR hS hX hY hi hwas
  clear A1 A2
  go_wp2_with fail
  refine ((show Calls Try.prog 16 _ w3 _ from by have h := Join_c a b _ _ W.heap.size w3 (TA.out.under A3.out) (TB.out.under A3.out) A3.out.size; rw [HR.out, HX.out, HI.out] at h; exact h)).mono ?_
  rintro e w4 ⟨⟨cr, rfl, htm⟩, hb⟩
  obtain ⟨na5, nc5, sa5, sc5, fz, rfl, -⟩ := htm.inv
  clear ax0 ax1 ax2 ax3 ax4 ax5 ax6 bx0 bx1 bx2 bx3 bx4 bx5 bx6 lA lB
  have HTM := Lib.hid htm
  have AC := Lib.hid (A3.out.trans (hb.mono A3.out.size))
  clear htm hb
  simp only [tyCells]
  go_upto_region 7 with fail
  have hsz := AC.out.size
  have hbw2 : Below w.heap.size w (w4.alloc (.cells #[.int .i64 X.kind, .string X.pkg, .int .i64 X.major, .string X.mod, .string X.name, .slice na5 X.names.length nc5, .slice sa5 X.subs.length sc5] 25)) := (acc0 HBW.out HBW.out.size AC.out).alloc (by have := HBW.out.size; omega) _
  have nbA := (BA.out.under AC.out BA.out.lt).alloc (.cells #[.int .i64 X.kind, .string X.pkg, .int .i64 X.major, .string X.mod, .string X.name, .slice na5 X.names.length nc5, .slice sa5 X.subs.length sc5] 25)
  have ntA := ((TA.out.under AC.out).alloc hsz (.cells #[.int .i64 X.kind, .string X.pkg, .int .i64 X.major, .string X.mod, .string X.name, .slice na5 X.names.length nc5, .slice sa5 X.subs.length sc5] 25)).mono (show _ ≤ (w4.alloc (.cells #[.int .i64 X.kind, .string X.pkg, .int .i64 X.major, .string X.mod, .string X.name, .slice na5 X.names.length nc5, .slice sa5 X.subs.length sc5] 25)).heap.size by simp; omega)
  have nbB := (BB.out.under AC.out BB.out.lt).alloc (.cells #[.int .i64 X.kind, .string X.pkg, .int .i64 X.major, .string X.mod, .string X.name, .slice na5 X.names.length nc5, .slice sa5 X.subs.length sc5] 25)
  have ntB := ((TB.out.under AC.out).alloc hsz (.cells #[.int .i64 X.kind, .string X.pkg, .int .i64 X.major, .string X.mod, .string X.name, .slice na5 X.names.length nc5, .slice sa5 X.subs.length sc5] 25)).mono (show _ ≤ (w4.alloc (.cells #[.int .i64 X.kind, .string X.pkg, .int .i64 X.major, .string X.mod, .string X.name, .slice na5 X.names.length nc5, .slice sa5 X.subs.length sc5] 25)).heap.size by simp; omega)
  have nbX := Blk.new w4 #[.int .i64 X.kind, .string X.pkg, .int .i64 X.major, .string X.mod, .string X.name, .slice na5 X.names.length nc5, .slice sa5 X.subs.length sc5] 25
  have ntX := ((HTM.out.mono fun b hb => hb.2).toC.alloc (Nat.le_refl _) (.cells #[.int .i64 X.kind, .string X.pkg, .int .i64 X.major, .string X.mod, .string X.name, .slice na5 X.names.length nc5, .slice sa5 X.subs.length sc5] 25)).mono (show w4.heap.size ≤ (w4.alloc (.cells #[.int .i64 X.kind, .string X.pkg, .int .i64 X.major, .string X.mod, .string X.name, .slice na5 X.names.length nc5, .slice sa5 X.subs.length sc5] 25)).heap.size by simp)
  simp only [tyCells] at ntX
  generalize hxb : w4.heap.size = blkX at nbX ⊢
  generalize (w4.alloc (.cells #[.int .i64 X.kind, .string X.pkg, .int .i64 X.major, .string X.mod, .string X.name, .slice na5 X.names.length nc5, .slice sa5 X.subs.length sc5] 25)) = V1 at hbw2 nbA nbB nbX ntA ntB ntX ⊢
  clear hxb hsz HTM AC HBW A3 BA TA BB TB
  have HBW := Lib.hid hbw2
  have BA := Lib.hid nbA
  have TA := Lib.hid ntA
  have BB := Lib.hid nbB
  have TB := Lib.hid ntB
  have BX := Lib.hid nbX
  have TX := Lib.hid ntX
  clear hbw2 nbA ntA nbB ntB nbX ntX
  have V0 := Lib.hid (Below.refl V1.heap.size V1)
  have kA := BA.out.under V0.out BA.out.lt
  obtain ⟨ax0, ax1, ax2, ax3, ax4, ax5, ax6⟩ := cells7 kA
  have lA := kA.lt
  have kB := BB.out.under V0.out BB.out.lt
  obtain ⟨bx0, bx1, bx2, bx3, bx4, bx5, bx6⟩ := cells7 kB
  have lB := kB.lt
  clear kA kB
  go_wp2_with fail
  refine ((show Calls Try.prog 17 _ V1 _ from by have h := Meet_c a b _ _ V1.heap.size V1 (TA.out.under V0.out) (TB.out.under V0.out) V0.out.size; rw [HS.out, HY.out, HW.out] at h; exact h)).mono ?_
  rintro e w5 ⟨⟨cr, rfl, htm⟩, hb⟩
  obtain ⟨na6, nc6, sa6, sc6, fz, rfl, -⟩ := htm.inv
  clear ax0 ax1 ax2 ax3 ax4 ax5 ax6 bx0 bx1 bx2 bx3 bx4 bx5 bx6 lA lB
  have HTM := Lib.hid htm
  have AC := Lib.hid (V0.out.trans (hb.mono V0.out.size))
  clear htm hb
  simp only [tyCells]
  go_upto_region 8 with fail
  have hsz := AC.out.size
  have hbw2 : Below w.heap.size w (w5.alloc (.cells #[.int .i64 Y.kind, .string Y.pkg, .int .i64 Y.major, .string Y.mod, .string Y.name, .slice na6 Y.names.length nc6, .slice sa6 Y.subs.length sc6] 25)) := (acc0 HBW.out HBW.out.size AC.out).alloc (by have := HBW.out.size; omega) _
  have nbA := (BA.out.under AC.out BA.out.lt).alloc (.cells #[.int .i64 Y.kind, .string Y.pkg, .int .i64 Y.major, .string Y.mod, .string Y.name, .slice na6 Y.names.length nc6, .slice sa6 Y.subs.length sc6] 25)
  have ntA := ((TA.out.under AC.out).alloc hsz (.cells #[.int .i64 Y.kind, .string Y.pkg, .int .i64 Y.major, .string Y.mod, .string Y.name, .slice na6 Y.names.length nc6, .slice sa6 Y.subs.length sc6] 25)).mono (show _ ≤ (w5.alloc (.cells #[.int .i64 Y.kind, .string Y.pkg, .int .i64 Y.major, .string Y.mod, .string Y.name, .slice na6 Y.names.length nc6, .slice sa6 Y.subs.length sc6] 25)).heap.size by simp; omega)
  have nbB := (BB.out.under AC.out BB.out.lt).alloc (.cells #[.int .i64 Y.kind, .string Y.pkg, .int .i64 Y.major, .string Y.mod, .string Y.name, .slice na6 Y.names.length nc6, .slice sa6 Y.subs.length sc6] 25)
  have ntB := ((TB.out.under AC.out).alloc hsz (.cells #[.int .i64 Y.kind, .string Y.pkg, .int .i64 Y.major, .string Y.mod, .string Y.name, .slice na6 Y.names.length nc6, .slice sa6 Y.subs.length sc6] 25)).mono (show _ ≤ (w5.alloc (.cells #[.int .i64 Y.kind, .string Y.pkg, .int .i64 Y.major, .string Y.mod, .string Y.name, .slice na6 Y.names.length nc6, .slice sa6 Y.subs.length sc6] 25)).heap.size by simp; omega)
  have nbX := (BX.out.under AC.out BX.out.lt).alloc (.cells #[.int .i64 Y.kind, .string Y.pkg, .int .i64 Y.major, .string Y.mod, .string Y.name, .slice na6 Y.names.length nc6, .slice sa6 Y.subs.length sc6] 25)
  have ntX := ((TX.out.under AC.out).alloc hsz (.cells #[.int .i64 Y.kind, .string Y.pkg, .int .i64 Y.major, .string Y.mod, .string Y.name, .slice na6 Y.names.length nc6, .slice sa6 Y.subs.length sc6] 25)).mono (show _ ≤ (w5.alloc (.cells #[.int .i64 Y.kind, .string Y.pkg, .int .i64 Y.major, .string Y.mod, .string Y.name, .slice na6 Y.names.length nc6, .slice sa6 Y.subs.length sc6] 25)).heap.size by simp; omega)
  have nbY := Blk.new w5 #[.int .i64 Y.kind, .string Y.pkg, .int .i64 Y.major, .string Y.mod, .string Y.name, .slice na6 Y.names.length nc6, .slice sa6 Y.subs.length sc6] 25
  have ntY := ((HTM.out.mono fun b hb => hb.2).toC.alloc (Nat.le_refl _) (.cells #[.int .i64 Y.kind, .string Y.pkg, .int .i64 Y.major, .string Y.mod, .string Y.name, .slice na6 Y.names.length nc6, .slice sa6 Y.subs.length sc6] 25)).mono (show w5.heap.size ≤ (w5.alloc (.cells #[.int .i64 Y.kind, .string Y.pkg, .int .i64 Y.major, .string Y.mod, .string Y.name, .slice na6 Y.names.length nc6, .slice sa6 Y.subs.length sc6] 25)).heap.size by simp)
  simp only [tyCells] at ntY
  generalize hxb : w5.heap.size = blkY at nbY ⊢
  generalize (w5.alloc (.cells #[.int .i64 Y.kind, .string Y.pkg, .int .i64 Y.major, .string Y.mod, .string Y.name, .slice na6 Y.names.length nc6, .slice sa6 Y.subs.length sc6] 25)) = V2 at hbw2 nbA nbB nbX nbY ntA ntB ntX ntY ⊢
  clear hxb hsz HTM AC HBW V0 BA TA BB TB BX TX
  have HBW := Lib.hid hbw2
  have BA := Lib.hid nbA
  have TA := Lib.hid ntA
  have BB := Lib.hid nbB
  have TB := Lib.hid ntB
  have BX := Lib.hid nbX
  have TX := Lib.hid ntX
  have BY := Lib.hid nbY
  have TY := Lib.hid ntY
  clear hbw2 nbA ntA nbB ntB nbX ntX nbY ntY
  have V0 := Lib.hid (Below.refl V2.heap.size V2)
  have kA := BA.out.under V0.out BA.out.lt
  obtain ⟨ax0, ax1, ax2, ax3, ax4, ax5, ax6⟩ := cells7 kA
  have lA := kA.lt
  clear kA
  go_wp2_with fail
  refine (plain0_c a _ V2.heap.size V2 (TA.out.under V0.out) V0.out.size).mono ?_
  rintro e w6 ⟨rfl, hb⟩
  clear ax0 ax1 ax2 ax3 ax4 ax5 ax6 lA
  have A6 := Lib.hid (V0.out.trans (hb.mono V0.out.size))
  clear hb
  have kB := BB.out.under A6.out BB.out.lt
  obtain ⟨bx0, bx1, bx2, bx3, bx4, bx5, bx6⟩ := cells7 kB
  have lB := kB.lt
  clear kB
  rw [FA.out, Bool.true_and]
  go_wp2_with fail
  refine (plain0_c b _ V2.heap.size w6 (TB.out.under A6.out) A6.out.size).mono ?_
  rintro e w7 ⟨rfl, hb⟩
  clear bx0 bx1 bx2 bx3 bx4 bx5 bx6 lB
  have A7 := Lib.hid (A6.out.trans (hb.mono A6.out.size))
  clear hb
  have kA := BA.out.under A7.out BA.out.lt
  obtain ⟨ax0, ax1, ax2, ax3, ax4, ax5, ax6⟩ := cells7 kA
  have lA := kA.lt
  have kB := BB.out.under A7.out BB.out.lt
  obtain ⟨bx0, bx1, bx2, bx3, bx4, bx5, bx6⟩ := cells7 kB
  have lB := kB.lt
  clear kA kB
  rw [FB.out, Bool.true_and]
  cases pa : PlainB a
  · skip
    have np := Lib.hid (no_plain (a := a) (b := b) (.inl pa))
    have i1 : is = false := by rw [← HI.out, ← HR.out, np.out.1]; rfl
    have i2 : was = false := by rw [← HW.out, ← HS.out, np.out.2.1]; rfl
    have AL1 := Lib.hid ((alike_iff X zeroTy).2 (by rw [← HX.out, ← HR.out, np.out.1]; rfl))
    have AL2 := Lib.hid ((alike_iff Y zeroTy).2 (by rw [← HY.out, ← HS.out, np.out.2.1]; rfl))
    subst i1 i2
    go_wp2_with fail
    refine (joins_c a b _ _ V2.heap.size w7 (TA.out.under A7.out) (TB.out.under A7.out) A7.out.size).mono ?_
    rintro e w8 ⟨rfl, hb⟩
    clear ax0 ax1 ax2 ax3 ax4 ax5 ax6 bx0 bx1 bx2 bx3 bx4 bx5 bx6 lA lB
    have A8 := Lib.hid (A7.out.trans (hb.mono A7.out.size))
    clear hb
    have kX := BX.out.under A8.out BX.out.lt
    obtain ⟨xx0, xx1, xx2, xx3, xx4, xx5, xx6⟩ := cells7 kX
    have lX := kX.lt
    clear kX
    rw [np.out.2.2]
    go_wp2_with fail
    refine (rSame_c X zeroTy _ _ V2.heap.size w8 (TX.out.under A8.out) (zero_tyc _ _) A8.out.size).mono ?_
    rintro e w9 ⟨rfl, hb⟩
    clear xx0 xx1 xx2 xx3 xx4 xx5 xx6 lX
    have A9 := Lib.hid (A8.out.trans (hb.mono A8.out.size))
    clear hb
    have kY := BY.out.under A9.out BY.out.lt
    obtain ⟨yx0, yx1, yx2, yx3, yx4, yx5, yx6⟩ := cells7 kY
    have lY := kY.lt
    clear kY
    rw [AL1.out]
    go_wp2_with fail
    refine (rSame_c Y zeroTy _ _ V2.heap.size w9 (TY.out.under A9.out) (zero_tyc _ _) A9.out.size).mono ?_
    rintro e w10 ⟨rfl, hb⟩
    clear yx0 yx1 yx2 yx3 yx4 yx5 yx6 lY
    have A10 := Lib.hid (A9.out.trans (hb.mono A9.out.size))
    clear hb
    rw [AL2.out]
    go_wp2_with fail
    go_ret
    exact ⟨rfl, acc0 HBW.out HBW.out.size A10.out⟩
  have Pa := Lib.hid pa
  clear pa
  cases pb : PlainB b
  · skip
    have np := Lib.hid (no_plain (a := a) (b := b) (.inr pb))
    have i1 : is = false := by rw [← HI.out, ← HR.out, np.out.1]; rfl
    have i2 : was = false := by rw [← HW.out, ← HS.out, np.out.2.1]; rfl
    have AL1 := Lib.hid ((alike_iff X zeroTy).2 (by rw [← HX.out, ← HR.out, np.out.1]; rfl))
    have AL2 := Lib.hid ((alike_iff Y zeroTy).2 (by rw [← HY.out, ← HS.out, np.out.2.1]; rfl))
    subst i1 i2
    go_wp2_with fail
    refine (joins_c a b _ _ V2.heap.size w7 (TA.out.under A7.out) (TB.out.under A7.out) A7.out.size).mono ?_
    rintro e w8 ⟨rfl, hb⟩
    clear ax0 ax1 ax2 ax3 ax4 ax5 ax6 bx0 bx1 bx2 bx3 bx4 bx5 bx6 lA lB
    have A8 := Lib.hid (A7.out.trans (hb.mono A7.out.size))
    clear hb
    have kX := BX.out.under A8.out BX.out.lt
    obtain ⟨xx0, xx1, xx2, xx3, xx4, xx5, xx6⟩ := cells7 kX
    have lX := kX.lt
    clear kX
    rw [np.out.2.2]
    go_wp2_with fail
    refine (rSame_c X zeroTy _ _ V2.heap.size w8 (TX.out.under A8.out) (zero_tyc _ _) A8.out.size).mono ?_
    rintro e w9 ⟨rfl, hb⟩
    clear xx0 xx1 xx2 xx3 xx4 xx5 xx6 lX
    have A9 := Lib.hid (A8.out.trans (hb.mono A8.out.size))
    clear hb
    have kY := BY.out.under A9.out BY.out.lt
    obtain ⟨yx0, yx1, yx2, yx3, yx4, yx5, yx6⟩ := cells7 kY
    have lY := kY.lt
    clear kY
    rw [AL1.out]
    go_wp2_with fail
    refine (rSame_c Y zeroTy _ _ V2.heap.size w9 (TY.out.under A9.out) (zero_tyc _ _) A9.out.size).mono ?_
    rintro e w10 ⟨rfl, hb⟩
    clear yx0 yx1 yx2 yx3 yx4 yx5 yx6 lY
    have A10 := Lib.hid (A9.out.trans (hb.mono A9.out.size))
    clear hb
    rw [AL2.out]
    go_wp2_with fail
    go_ret
    exact ⟨rfl, acc0 HBW.out HBW.out.size A10.out⟩
  have Pb := Lib.hid pb
  clear pb
  obtain ⟨RB, hRB⟩ : ∃ x, bndF 32 true a b = x := ⟨_, rfl⟩
  obtain ⟨SB, hSB⟩ : ∃ x, bndF 32 false a b = x := ⟨_, rfl⟩
  obtain ⟨jn, hj⟩ : ∃ v, RB.isSome = v := ⟨_, rfl⟩
  obtain ⟨mn, hm⟩ : ∃ v, SB.isSome = v := ⟨_, rfl⟩
  have RBD := Lib.hid (rbound_c 32 true a b (plain_may Pa.out) (plain_may Pb.out) (may_deep (plain_may Pa.out)) (may_deep (plain_may Pb.out)))
  have SBD := Lib.hid (rbound_c 32 false a b (plain_may Pa.out) (plain_may Pb.out) (may_deep (plain_may Pa.out)) (may_deep (plain_may Pb.out)))
  rw [hRB] at RBD
  rw [hSB] at SBD
  have CR := Lib.hid (bound_cases FA.out FB.out Pa.out Pb.out HR.out HX.out HI.out hRB)
  have CS := Lib.hid (bound_cases FA.out FB.out Pa.out Pb.out HS.out HY.out HW.out hSB)
  have HJN := Lib.hid hj
  have HMN := Lib.hid hm
  have HJ := Lib.hid (show JoinsB a b = jn by rw [JoinsB, Pa.out, Pb.out, hRB, hj]; rfl)
  clear hRB hSB hj hm
  go_wp2_with fail
  refine (RBD.out _ _ V2.heap.size w7 (TA.out.under A7.out) (TB.out.under A7.out) A7.out.size).mono ?_
  rintro e w8 ⟨⟨p, cr, rfl, ht, htm⟩, hb⟩
  obtain ⟨na7, nc7, sa7, sc7, fz, rfl, -⟩ := htm.inv
  clear ax0 ax1 ax2 ax3 ax4 ax5 ax6 bx0 bx1 bx2 bx3 bx4 bx5 bx6 lA lB
  rw [HJN.out]
  have s7 := A7.out.size
  have s8 := hb.size
  have ntP := (htm.mono (M' := fun b => b < w8.heap.size) fun b hb => hb.elim (fun h => by omega) (fun h => h.2)).toC
  have HTM := Lib.hid ntP
  have HP := Lib.hid ht
  have AC := Lib.hid (A7.out.trans (hb.mono A7.out.size))
  clear htm hb ht ntP
  simp only [tyCells]
  go_upto_region 13 with fail
  have hsz := AC.out.size
  have hbw2 : Below w.heap.size w (w8.alloc (.cells #[.int .i64 p.kind, .string p.pkg, .int .i64 p.major, .string p.mod, .string p.name, .slice na7 p.names.length nc7, .slice sa7 p.subs.length sc7] 25)) := (acc0 HBW.out HBW.out.size AC.out).alloc (by have := HBW.out.size; omega) _
  have nlA := BA.out.lt
  have nbA := (BA.out.under AC.out BA.out.lt).alloc (.cells #[.int .i64 p.kind, .string p.pkg, .int .i64 p.major, .string p.mod, .string p.name, .slice na7 p.names.length nc7, .slice sa7 p.subs.length sc7] 25)
  have ntA := ((TA.out.under AC.out).alloc hsz (.cells #[.int .i64 p.kind, .string p.pkg, .int .i64 p.major, .string p.mod, .string p.name, .slice na7 p.names.length nc7, .slice sa7 p.subs.length sc7] 25)).mono hsz
  have nlB := BB.out.lt
  have nbB := (BB.out.under AC.out BB.out.lt).alloc (.cells #[.int .i64 p.kind, .string p.pkg, .int .i64 p.major, .string p.mod, .string p.name, .slice na7 p.names.length nc7, .slice sa7 p.subs.length sc7] 25)
  have ntB := ((TB.out.under AC.out).alloc hsz (.cells #[.int .i64 p.kind, .string p.pkg, .int .i64 p.major, .string p.mod, .string p.name, .slice na7 p.names.length nc7, .slice sa7 p.subs.length sc7] 25)).mono hsz
  have nlX := BX.out.lt
  have nbX := (BX.out.under AC.out BX.out.lt).alloc (.cells #[.int .i64 p.kind, .string p.pkg, .int .i64 p.major, .string p.mod, .string p.name, .slice na7 p.names.length nc7, .slice sa7 p.subs.length sc7] 25)
  have ntX := ((TX.out.under AC.out).alloc hsz (.cells #[.int .i64 p.kind, .string p.pkg, .int .i64 p.major, .string p.mod, .string p.name, .slice na7 p.names.length nc7, .slice sa7 p.subs.length sc7] 25)).mono hsz
  have nlY := BY.out.lt
  have nbY := (BY.out.under AC.out BY.out.lt).alloc (.cells #[.int .i64 p.kind, .string p.pkg, .int .i64 p.major, .string p.mod, .string p.name, .slice na7 p.names.length nc7, .slice sa7 p.subs.length sc7] 25)
  have ntY := ((TY.out.under AC.out).alloc hsz (.cells #[.int .i64 p.kind, .string p.pkg, .int .i64 p.major, .string p.mod, .string p.name, .slice na7 p.names.length nc7, .slice sa7 p.subs.length sc7] 25)).mono hsz
  have nbP := Blk.new w8 #[.int .i64 p.kind, .string p.pkg, .int .i64 p.major, .string p.mod, .string p.name, .slice na7 p.names.length nc7, .slice sa7 p.subs.length sc7] 25
  have ntP := HTM.out.alloc (Nat.le_refl _) (.cells #[.int .i64 p.kind, .string p.pkg, .int .i64 p.major, .string p.mod, .string p.name, .slice na7 p.names.length nc7, .slice sa7 p.subs.length sc7] 25)
  simp only [tyCells] at ntP
  have hz3 : (w8.alloc (.cells #[.int .i64 p.kind, .string p.pkg, .int .i64 p.major, .string p.mod, .string p.name, .slice na7 p.names.length nc7, .slice sa7 p.subs.length sc7] 25)).heap.size = w8.heap.size + 1 := by simp
  generalize hxb : w8.heap.size = bP at nbP ntP hz3 hsz ntA ntB ntX ntY ⊢
  generalize (w8.alloc (.cells #[.int .i64 p.kind, .string p.pkg, .int .i64 p.major, .string p.mod, .string p.name, .slice na7 p.names.length nc7, .slice sa7 p.subs.length sc7] 25)) = V3 at hbw2 hz3 nbA ntA nbB ntB nbX ntX nbY ntY nbP ntP ⊢
  have hw2 := HBW.out.size
  clear hxb HTM AC HBW V0 A6 A7 BA TA BB TB BX TX BY TY
  have HBW := Lib.hid hbw2
  have HZ3 := Lib.hid hz3
  have LA := Lib.hid (show _ < bP from Nat.lt_of_lt_of_le nlA hsz)
  clear nlA
  have LB := Lib.hid (show _ < bP from Nat.lt_of_lt_of_le nlB hsz)
  clear nlB
  have LX := Lib.hid (show _ < bP from Nat.lt_of_lt_of_le nlX hsz)
  clear nlX
  have LY := Lib.hid (show _ < bP from Nat.lt_of_lt_of_le nlY hsz)
  clear nlY
  have HWP := Lib.hid (show w.heap.size ≤ bP by omega)
  clear hw2 hsz s7 s8 hz3
  have BA := Lib.hid nbA
  have TA := Lib.hid ntA
  have BB := Lib.hid nbB
  have TB := Lib.hid ntB
  have BX := Lib.hid nbX
  have TX := Lib.hid ntX
  have BY := Lib.hid nbY
  have TY := Lib.hid ntY
  have BP := Lib.hid nbP
  have TP := Lib.hid ntP
  clear hbw2 nbA ntA nbB ntB nbX ntX nbY ntY nbP ntP
  have V0 := Lib.hid (Below.refl V3.heap.size V3)
  have kA := BA.out.under V0.out BA.out.lt
  obtain ⟨ax0, ax1, ax2, ax3, ax4, ax5, ax6⟩ := cells7 kA
  have lA := kA.lt
  have kB := BB.out.under V0.out BB.out.lt
  obtain ⟨bx0, bx1, bx2, bx3, bx4, bx5, bx6⟩ := cells7 kB
  have lB := kB.lt
  clear kA kB
  go_wp2_with fail
  refine (SBD.out _ _ bP V3 TA.out TB.out (by have := HZ3.out; omega)).mono ?_
  rintro e w9 ⟨⟨q, cr, rfl, ht, htm⟩, hb⟩
  obtain ⟨na8, nc8, sa8, sc8, fz, rfl, -⟩ := htm.inv
  clear ax0 ax1 ax2 ax3 ax4 ax5 ax6 bx0 bx1 bx2 bx3 bx4 bx5 bx6 lA lB
  rw [HMN.out]
  have s9 := hb.size
  have htm := htm.mono (M' := fun b => b ≠ bP ∧ b < w9.heap.size) fun b hb => hb.elim (fun h => by have := HZ3.out; exact ⟨by omega, by omega⟩) (fun h => by have := HZ3.out; have := h.1; exact ⟨by omega, h.2⟩)
  have HTM := Lib.hid htm
  have HQ := Lib.hid ht
  have AC := Lib.hid hb
  clear htm hb ht
  simp only [tyCells]
  go_upto_region 14 with fail
  have hsz := AC.out.size
  have hbw2 : Below w.heap.size w (w9.alloc (.cells #[.int .i64 q.kind, .string q.pkg, .int .i64 q.major, .string q.mod, .string q.name, .slice na8 q.names.length nc8, .slice sa8 q.subs.length sc8] 25)) := (acc0 HBW.out HBW.out.size AC.out).alloc (by have := HBW.out.size; omega) _
  have hz3 := HZ3.out
  have nbA := (BA.out.under AC.out BA.out.lt).alloc (.cells #[.int .i64 q.kind, .string q.pkg, .int .i64 q.major, .string q.mod, .string q.name, .slice na8 q.names.length nc8, .slice sa8 q.subs.length sc8] 25)
  have ntA := ((TA.out.under (AC.out.mono (show bP ≤ V3.heap.size by omega)))).alloc (show bP ≤ w9.heap.size by omega) (.cells #[.int .i64 q.kind, .string q.pkg, .int .i64 q.major, .string q.mod, .string q.name, .slice na8 q.names.length nc8, .slice sa8 q.subs.length sc8] 25)
  have nbB := (BB.out.under AC.out BB.out.lt).alloc (.cells #[.int .i64 q.kind, .string q.pkg, .int .i64 q.major, .string q.mod, .string q.name, .slice na8 q.names.length nc8, .slice sa8 q.subs.length sc8] 25)
  have ntB := ((TB.out.under (AC.out.mono (show bP ≤ V3.heap.size by omega)))).alloc (show bP ≤ w9.heap.size by omega) (.cells #[.int .i64 q.kind, .string q.pkg, .int .i64 q.major, .string q.mod, .string q.name, .slice na8 q.names.length nc8, .slice sa8 q.subs.length sc8] 25)
  have nbX := (BX.out.under AC.out BX.out.lt).alloc (.cells #[.int .i64 q.kind, .string q.pkg, .int .i64 q.major, .string q.mod, .string q.name, .slice na8 q.names.length nc8, .slice sa8 q.subs.length sc8] 25)
  have ntX := ((TX.out.under (AC.out.mono (show bP ≤ V3.heap.size by omega)))).alloc (show bP ≤ w9.heap.size by omega) (.cells #[.int .i64 q.kind, .string q.pkg, .int .i64 q.major, .string q.mod, .string q.name, .slice na8 q.names.length nc8, .slice sa8 q.subs.length sc8] 25)
  have nbY := (BY.out.under AC.out BY.out.lt).alloc (.cells #[.int .i64 q.kind, .string q.pkg, .int .i64 q.major, .string q.mod, .string q.name, .slice na8 q.names.length nc8, .slice sa8 q.subs.length sc8] 25)
  have ntY := ((TY.out.under (AC.out.mono (show bP ≤ V3.heap.size by omega)))).alloc (show bP ≤ w9.heap.size by omega) (.cells #[.int .i64 q.kind, .string q.pkg, .int .i64 q.major, .string q.mod, .string q.name, .slice na8 q.names.length nc8, .slice sa8 q.subs.length sc8] 25)
  have nbP := (BP.out.under AC.out BP.out.lt).alloc (.cells #[.int .i64 q.kind, .string q.pkg, .int .i64 q.major, .string q.mod, .string q.name, .slice na8 q.names.length nc8, .slice sa8 q.subs.length sc8] 25)
  have ntP := ((TP.out.under (AC.out.mono (show bP ≤ V3.heap.size by omega)))).alloc (show bP ≤ w9.heap.size by omega) (.cells #[.int .i64 q.kind, .string q.pkg, .int .i64 q.major, .string q.mod, .string q.name, .slice na8 q.names.length nc8, .slice sa8 q.subs.length sc8] 25)
  have nbQ := Blk.new w9 #[.int .i64 q.kind, .string q.pkg, .int .i64 q.major, .string q.mod, .string q.name, .slice na8 q.names.length nc8, .slice sa8 q.subs.length sc8] 25
  have ntQ := HTM.out.keep (w' := w9.alloc (.cells #[.int .i64 q.kind, .string q.pkg, .int .i64 q.major, .string q.mod, .string q.name, .slice na8 q.names.length nc8, .slice sa8 q.subs.length sc8] 25)) fun pt hpt => ((Below.refl w9.heap.size w9).alloc (Nat.le_refl _) _).cell hpt.2
  simp only [tyCells] at ntQ
  have hz4 : (w9.alloc (.cells #[.int .i64 q.kind, .string q.pkg, .int .i64 q.major, .string q.mod, .string q.name, .slice na8 q.names.length nc8, .slice sa8 q.subs.length sc8] 25)).heap.size = w9.heap.size + 1 := by simp
  generalize hxb : w9.heap.size = bQ at nbQ ntQ hz4 hsz ⊢
  generalize (w9.alloc (.cells #[.int .i64 q.kind, .string q.pkg, .int .i64 q.major, .string q.mod, .string q.name, .slice na8 q.names.length nc8, .slice sa8 q.subs.length sc8] 25)) = V4 at hbw2 hz4 nbA ntA nbB ntB nbX ntX nbY ntY nbP ntP nbQ ntQ ⊢
  have HPQ := Lib.hid (show bP < bQ by omega)
  clear hxb hsz hz3 s9 HTM AC HBW V0 HZ3 BA TA BB TB BX TX BY TY BP TP
  have HBW := Lib.hid hbw2
  have HZ4 := Lib.hid hz4
  have BA := Lib.hid nbA
  have TA := Lib.hid ntA
  have BB := Lib.hid nbB
  have TB := Lib.hid ntB
  have BX := Lib.hid nbX
  have TX := Lib.hid ntX
  have BY := Lib.hid nbY
  have TY := Lib.hid ntY
  have BP := Lib.hid nbP
  have TP := Lib.hid ntP
  have BQ := Lib.hid nbQ
  have TQ := Lib.hid ntQ
  clear hbw2 hz4 nbA ntA nbB ntB nbX ntX nbY ntY nbP ntP nbQ ntQ
  have V0 := Lib.hid (Below.refl V4.heap.size V4)
  have kP := BP.out.under V0.out BP.out.lt
  obtain ⟨px0, px1, px2, px3, px4, px5, px6⟩ := cells7 kP
  have lP := kP.lt
  clear kP
  have HZP := Lib.hid (show (is = false → X = zeroTy) ∧ (is = true → X = p ∧ jn = true) from flag_tells CR.out HP.out HJN.out)
  go_upto_region 15 with fail
  go_cut [97] (fun s97 wx => s97 = .bool (!is) ∧ Below V4.heap.size V4 wx)
  case first =>
    rcases CR.out with ⟨hr, hx, hi⟩ | ⟨t0, hr, hm, ⟨hmt, hx, hi⟩ | ⟨hmt, hx, hi⟩⟩
    · subst hr
      obtain rfl : jn = false := by rw [← HJN.out]; rfl
      have HI0 := Lib.hid hi
      clear hx hi
      go_wp2_with fail
      go_meet
      exact ⟨by rw [HI0.out]; rfl, Below.refl _ _⟩
    · subst hr
      obtain rfl : jn = true := by rw [← HJN.out]; rfl
      obtain rfl : p = t0 := HP.out t0 rfl
      have HI0 := Lib.hid hi
      clear hx hi
      have HMT := Lib.hid hmt
      clear hmt
      go_wp2_with fail
      refine (rMay_c p _ bP V4 TP.out (by have := HPQ.out; have := HZ4.out; omega) hm).mono ?_
      rintro e wm ⟨rfl, hb⟩
      clear px0 px1 px2 px3 px4 px5 px6 lP
      rw [HMT.out]
      have AM := Lib.hid hb
      clear hb
      go_wp2_with fail
      go_meet
      exact ⟨by rw [HI0.out]; rfl, AM.out⟩
    · subst hr
      obtain rfl : jn = true := by rw [← HJN.out]; rfl
      obtain rfl : p = t0 := HP.out t0 rfl
      have HI0 := Lib.hid hi
      clear hx hi
      have HMT := Lib.hid hmt
      clear hmt
      go_wp2_with fail
      refine (rMay_c p _ bP V4 TP.out (by have := HPQ.out; have := HZ4.out; omega) hm).mono ?_
      rintro e wm ⟨rfl, hb⟩
      clear px0 px1 px2 px3 px4 px5 px6 lP
      rw [HMT.out]
      have AM := Lib.hid hb
      clear hb
      go_wp2_with fail
      go_meet
      exact ⟨by rw [HI0.out]; rfl, AM.out⟩
  case rest =>
    obtain ⟨rfl, hcb⟩ := hcut
    clear px0 px1 px2 px3 px4 px5 px6 lP
    have AM := Lib.hid hcb
    clear hcb
    have kP := BP.out.under AM.out BP.out.lt
    obtain ⟨px0, px1, px2, px3, px4, px5, px6⟩ := cells7 kP
    have lP := kP.lt
    clear kP
    have pf0 := (BP.out.under AM.out BP.out.lt).free 0
    have pf1 := (BP.out.under AM.out BP.out.lt).free 1
    have pf2 := (BP.out.under AM.out BP.out.lt).free 2
    have pf3 := (BP.out.under AM.out BP.out.lt).free 3
    have pf4 := (BP.out.under AM.out BP.out.lt).free 4
    have pf5 := (BP.out.under AM.out BP.out.lt).free 5
    have pf6 := (BP.out.under AM.out BP.out.lt).free 6
    go_upto_if 97 with fail
    go_cut [15] (fun s15 wx => s15 = .bool is ∧ ∃ c0 c1 c2 c3 c4 c5 c6, Blk wx bP #[c0, c1, c2, c3, c4, c5, c6] 25 ∧ TyC wx bP X #[c0, c1, c2, c3, c4, c5, c6] ∧ Exc bP V4 wx)
    case first =>
      cases is
      · have EX := Lib.hid (HZP.out.1 rfl)
        go_wp2_with fail
        go_meet
        exact ⟨rfl, _, _, _, _, _, _, _, (put7_full (.int .i64 0) (.string { data := #[] }) (.int .i64 0) (.string { data := #[] }) (.string { data := #[] }) (.slice none 0 0) (.slice none 0 0) (BP.out.under AM.out BP.out.lt) : Blk _ _ _ _), (by rw [EX.out]; exact zero_tyc _ _), (Exc.of_below AM.out).put (.int .i64 0) (.string { data := #[] }) (.int .i64 0) (.string { data := #[] }) (.string { data := #[] }) (.slice none 0 0) (.slice none 0 0)⟩
      · obtain ⟨ex, ej⟩ := HZP.out.2 rfl
        have EX := Lib.hid ex
        subst ej
        clear ex
        go_wp2_with fail
        go_meet
        exact ⟨rfl, _, _, _, _, _, _, _, BP.out.under AM.out BP.out.lt, (by rw [EX.out]; exact (TP.out.under (AM.out.mono (by have := HPQ.out; have := HZ4.out; omega)))), (Exc.of_below AM.out)⟩
    case rest =>
      obtain ⟨rfl, c0, c1, c2, c3, c4, c5, c6, nbP, ntP, hx⟩ := hcut
      rename World => V5
      clear px0 px1 px2 px3 px4 px5 px6 lP
      have hpq := HPQ.out
      have hz4 := HZ4.out
      have hxs := hx.size
      have hb4 : Below bP V4 V5 := hx.below (by omega)
      have nbA := BA.out.under hb4 LA.out
      have ntA := (TA.out.under hb4).mono (show bP ≤ bQ by omega)
      have nlA := Nat.lt_trans LA.out hpq
      have nbB := BB.out.under hb4 LB.out
      have ntB := (TB.out.under hb4).mono (show bP ≤ bQ by omega)
      have nlB := Nat.lt_trans LB.out hpq
      have nbX := BX.out.under hb4 LX.out
      have ntX := (TX.out.under hb4).mono (show bP ≤ bQ by omega)
      have nlX := Nat.lt_trans LX.out hpq
      have nbY := BY.out.under hb4 LY.out
      have ntY := (TY.out.under hb4).mono (show bP ≤ bQ by omega)
      have nlY := Nat.lt_trans LY.out hpq
      have ntP := ntP.mono (show bP ≤ bQ by omega)
      have nbQ := hx.blk BQ.out (by omega)
      have ntQ := ((TQ.out.keep fun pt hpt => hx.cell pt (by have := hpt.2; omega) hpt.1).mono (M' := fun b => b < bQ) fun b hb => hb.2).toC
      have hbw2 := HBW.out.trans (hb4.mono HWP.out)
      have hqz : bQ + 1 ≤ V5.heap.size := by omega
      clear hx hxs hb4 HBW HZ4 V0 pf0 pf1 pf2 pf3 pf4 pf5 pf6 LA LB LX LY BA TA BB TB BX TX BY TY BP TP BQ TQ
      have BA := Lib.hid nbA
      have TA := Lib.hid ntA
      have BB := Lib.hid nbB
      have TB := Lib.hid ntB
      have BX := Lib.hid nbX
      have TX := Lib.hid ntX
      have BY := Lib.hid nbY
      have TY := Lib.hid ntY
      have BP := Lib.hid nbP
      have TP := Lib.hid ntP
      have BQ := Lib.hid nbQ
      have TQ := Lib.hid ntQ
      have LA := Lib.hid nlA
      have LB := Lib.hid nlB
      have LX := Lib.hid nlX
      have LY := Lib.hid nlY
      have LP := Lib.hid hpq
      have HBW := Lib.hid hbw2
      have HQZ := Lib.hid hqz
      clear hbw2 hqz hpq hz4 nbA ntA nbB ntB nbX ntX nbY ntY nbP ntP nbQ ntQ nlA nlB nlX nlY
      have V0 := Lib.hid (Below.refl V5.heap.size V5)
      have kQ := BQ.out.under V0.out BQ.out.lt
      obtain ⟨qx0, qx1, qx2, qx3, qx4, qx5, qx6⟩ := cells7 kQ
      have lQ := kQ.lt
      clear kQ
      have HZQ := Lib.hid (show (was = false → Y = zeroTy) ∧ (was = true → Y = q ∧ mn = true) from flag_tells CS.out HQ.out HMN.out)
      go_upto_region 18 with fail
      go_cut [105] (fun s105 wx => s105 = .bool (!was) ∧ Below V5.heap.size V5 wx)
      case first =>
        rcases CS.out with ⟨hr, hx, hi⟩ | ⟨t0, hr, hm, ⟨hmt, hx, hi⟩ | ⟨hmt, hx, hi⟩⟩
        · subst hr
          obtain rfl : mn = false := by rw [← HMN.out]; rfl
          have HI0 := Lib.hid hi
          clear hx hi
          go_wp2_with fail
          go_meet
          exact ⟨by rw [HI0.out]; rfl, Below.refl _ _⟩
        · subst hr
          obtain rfl : mn = true := by rw [← HMN.out]; rfl
          obtain rfl : q = t0 := HQ.out t0 rfl
          have HI0 := Lib.hid hi
          clear hx hi
          have HMT := Lib.hid hmt
          clear hmt
          go_wp2_with fail
          refine (rMay_c q _ bQ V5 TQ.out (by have := HQZ.out; omega) hm).mono ?_
          rintro e wm ⟨rfl, hb⟩
          clear qx0 qx1 qx2 qx3 qx4 qx5 qx6 lQ
          rw [HMT.out]
          have AM := Lib.hid hb
          clear hb
          go_wp2_with fail
          go_meet
          exact ⟨by rw [HI0.out]; rfl, AM.out⟩
        · subst hr
          obtain rfl : mn = true := by rw [← HMN.out]; rfl
          obtain rfl : q = t0 := HQ.out t0 rfl
          have HI0 := Lib.hid hi
          clear hx hi
          have HMT := Lib.hid hmt
          clear hmt
          go_wp2_with fail
          refine (rMay_c q _ bQ V5 TQ.out (by have := HQZ.out; omega) hm).mono ?_
          rintro e wm ⟨rfl, hb⟩
          clear qx0 qx1 qx2 qx3 qx4 qx5 qx6 lQ
          rw [HMT.out]
          have AM := Lib.hid hb
          clear hb
          go_wp2_with fail
          go_meet
          exact ⟨by rw [HI0.out]; rfl, AM.out⟩
      case rest =>
        obtain ⟨rfl, hcb⟩ := hcut
        clear qx0 qx1 qx2 qx3 qx4 qx5 qx6 lQ
        have AM := Lib.hid hcb
        clear hcb
        have kQ := BQ.out.under AM.out BQ.out.lt
        obtain ⟨qx0, qx1, qx2, qx3, qx4, qx5, qx6⟩ := cells7 kQ
        have lQ := kQ.lt
        clear kQ
        have pf0 := (BQ.out.under AM.out BQ.out.lt).free 0
        have pf1 := (BQ.out.under AM.out BQ.out.lt).free 1
        have pf2 := (BQ.out.under AM.out BQ.out.lt).free 2
        have pf3 := (BQ.out.under AM.out BQ.out.lt).free 3
        have pf4 := (BQ.out.under AM.out BQ.out.lt).free 4
        have pf5 := (BQ.out.under AM.out BQ.out.lt).free 5
        have pf6 := (BQ.out.under AM.out BQ.out.lt).free 6
        go_upto_if 105 with fail
        go_cut [17] (fun s17 wx => s17 = .bool was ∧ ∃ c0 c1 c2 c3 c4 c5 c6, Blk wx bQ #[c0, c1, c2, c3, c4, c5, c6] 25 ∧ TyC wx bQ Y #[c0, c1, c2, c3, c4, c5, c6] ∧ Below bQ V5 wx)
        case first =>
          cases was
          · have EX := Lib.hid (HZQ.out.1 rfl)
            go_wp2_with fail
            go_meet
            exact ⟨rfl, _, _, _, _, _, _, _, (put7_full (.int .i64 0) (.string { data := #[] }) (.int .i64 0) (.string { data := #[] }) (.string { data := #[] }) (.slice none 0 0) (.slice none 0 0) (BQ.out.under AM.out BQ.out.lt) : Blk _ _ _ _), (by rw [EX.out]; exact zero_tyc _ _), (put7_bel (.int .i64 0) (.string { data := #[] }) (.int .i64 0) (.string { data := #[] }) (.string { data := #[] }) (.slice none 0 0) (.slice none 0 0) (AM.out.mono (by have := HQZ.out; omega)) (Nat.le_refl _))⟩
          · obtain ⟨ex, ej⟩ := HZQ.out.2 rfl
            have EX := Lib.hid ex
            subst ej
            clear ex
            go_wp2_with fail
            go_meet
            exact ⟨rfl, _, _, _, _, _, _, _, BQ.out.under AM.out BQ.out.lt, (by rw [EX.out]; exact (TQ.out.under (AM.out.mono (by have := HQZ.out; omega)))), (AM.out.mono (by have := HQZ.out; omega))⟩
        case rest =>
          obtain ⟨rfl, d0, d1, d2, d3, d4, d5, d6, nbQ, ntQ, hx⟩ := hcut
          rename World => V6
          clear qx0 qx1 qx2 qx3 qx4 qx5 qx6 lQ
          have hxs := hx.size
          have hqz := HQZ.out
          have nbA := BA.out.under hx LA.out
          have ntA := TA.out.under hx
          have nbB := BB.out.under hx LB.out
          have ntB := TB.out.under hx
          have nbX := BX.out.under hx LX.out
          have ntX := TX.out.under hx
          have nbY := BY.out.under hx LY.out
          have ntY := TY.out.under hx
          have nbP := BP.out.under hx LP.out
          have ntP := TP.out.under hx
          have hbw2 := HBW.out.trans (hx.mono (show w.heap.size ≤ bQ by have := HWP.out; have := LP.out; omega))
          clear hx hxs HBW V0 pf0 pf1 pf2 pf3 pf4 pf5 pf6 BA TA BB TB BX TX BY TY BP TP BQ TQ
          have BA := Lib.hid nbA
          have TA := Lib.hid ntA
          have BB := Lib.hid nbB
          have TB := Lib.hid ntB
          have BX := Lib.hid nbX
          have TX := Lib.hid ntX
          have BY := Lib.hid nbY
          have TY := Lib.hid ntY
          have BP := Lib.hid nbP
          have TP := Lib.hid ntP
          have BQ := Lib.hid nbQ
          have TQ := Lib.hid ntQ
          have HBW := Lib.hid hbw2
          clear hbw2 nbA ntA nbB ntB nbX ntX nbY ntY nbP ntP nbQ ntQ
          have HQY := Lib.hid (show bQ ≤ V6.heap.size by have := BQ.out.lt; omega)
          have V0 := Lib.hid (Below.refl V6.heap.size V6)
          have kA := BA.out.under V0.out BA.out.lt
          obtain ⟨ax0, ax1, ax2, ax3, ax4, ax5, ax6⟩ := cells7 kA
          have lA := kA.lt
          have kB := BB.out.under V0.out BB.out.lt
          obtain ⟨bx0, bx1, bx2, bx3, bx4, bx5, bx6⟩ := cells7 kB
          have lB := kB.lt
          clear kA kB
          have e1 : (jn == jn) = true := by simp
          have e2 : (is == is) = true := by simp
          have e3 : (was == was) = true := by simp
          go_wp2_with fail
          refine (joins_c a b _ _ bQ V6 TA.out TB.out HQY.out).mono ?_
          rintro e w21 ⟨rfl, hb⟩
          clear ax0 ax1 ax2 ax3 ax4 ax5 ax6 bx0 bx1 bx2 bx3 bx4 bx5 bx6 lA lB
          rw [HJ.out]
          have A1 := Lib.hid hb
          clear hb
          have kX := BX.out.under A1.out BX.out.lt
          obtain ⟨xx0, xx1, xx2, xx3, xx4, xx5, xx6⟩ := cells7 kX
          have lX := kX.lt
          have kP := BP.out.under A1.out BP.out.lt
          obtain ⟨px0, px1, px2, px3, px4, px5, px6⟩ := cells7 kP
          have lP := kP.lt
          clear kX kP
          go_wp2_with fail
          refine (rSame_c X X _ _ bQ w21 (TX.out.under (A1.out.mono HQY.out)) (TP.out.under (A1.out.mono HQY.out)) (Nat.le_trans HQY.out A1.out.size)).mono ?_
          rintro e w22 ⟨rfl, hb⟩
          clear xx0 xx1 xx2 xx3 xx4 xx5 xx6 px0 px1 px2 px3 px4 px5 px6 lX lP
          rw [(alike_iff X X).2 rfl]
          have A2 := Lib.hid (A1.out.trans (hb.mono A1.out.size))
          clear hb
          have kY := BY.out.under A2.out BY.out.lt
          obtain ⟨yx0, yx1, yx2, yx3, yx4, yx5, yx6⟩ := cells7 kY
          have lY := kY.lt
          have kQ := BQ.out.under A2.out BQ.out.lt
          obtain ⟨qx0, qx1, qx2, qx3, qx4, qx5, qx6⟩ := cells7 kQ
          have lQ := kQ.lt
          clear kY kQ
          go_wp2_with fail
          refine (rSame_c Y Y _ _ bQ w22 (TY.out.under (A2.out.mono HQY.out)) (TQ.out.under (A2.out.mono HQY.out)) (Nat.le_trans HQY.out A2.out.size)).mono ?_
          rintro e w23 ⟨rfl, hb⟩
          clear yx0 yx1 yx2 yx3 yx4 yx5 yx6 qx0 qx1 qx2 qx3 qx4 qx5 qx6 lY lQ
          rw [(alike_iff Y Y).2 rfl]
          have A3 := Lib.hid (A2.out.trans (hb.mono A2.out.size))
          clear hb
          go_wp2_with fail
          go_ret
          exact ⟨rfl, acc0 HBW.out HBW.out.size A3.out⟩
end Go.Proofs.Ytalpmjmifcofeaa
namespace Go.Proofs.Ytalpmjmifcofeaa
open Go.ChangeShapes Go.WideShapes Go.ChangeAt Go.RowKit
theorem own : ownKnob Try.prog.godebug = none := by kernel_rfl
theorem laidOut : laidOutB Try.prog = true := by kernel_rfl
set_option maxRecDepth 100000 in
theorem bounds_lifted (os : Os) (started : os.Started) (H : Type) (enc : TypeId × Value → H) :
    ReturnsInHanded {} Try.checked os 7 .any (Rows.subBoundsSpec.pre6 enc Try.prog Try.f7 Rows.subBoundsRow.domain false) (Rows.subBoundsSpec.post enc Try.prog Try.f7 false true false false) := by
  refine returnsInHanded_of_change (C := Try.checked) own started (by kernel_rfl) Try.func7
    (ChangeSpec.witness6 (enc := enc) (C := Try.checked) false ⟨#[], #[.agg #[.int .i64 0, .string ByteArray.empty, .int .i64 0, .string ByteArray.empty, .string ByteArray.empty, .slice none 0 0, .slice none 0 0], .agg #[.int .i64 0, .string ByteArray.empty, .int .i64 0, .string ByteArray.empty, .string ByteArray.empty, .slice none 0 0, .slice none 0 0]], []⟩ 8 (by kernel_rfl) (by kernel_rfl) (by kernel_rfl) (by kernel_rfl)) ?_
  intro W base args ds gs before hval0 hW hcnd _
  have hval : ∀ (j : Nat) t v, Try.f7.params[j]? = some t → args[j]? = some v → Value.okWide Try.prog W .any base t v := hval0
  have hW' := hW
  obtain ⟨p, q, hA0, hV, rfl, hfz, hnd⟩ := hW
  have hA : DataW.TrodAll enc Try.prog W 0 (fun _ => true) true Try.f7.params.toList args.toList ds p := hA0
  rw [Try.params7] at hA hval
  obtain ⟨v0, vs0, d0, ds0, p0, q0, hargs, rfl, rfl, h0, r0⟩ := trodAll_cons hA
  obtain ⟨v1, vs1, d1, ds1, p1, q1, rfl, rfl, rfl, h1, r1⟩ := trodAll_cons r0
  obtain ⟨rfl, rfl, rfl⟩ := trodAll_nil r1
  obtain rfl : args = #[v0, v1] := by cases args; simp_all
  obtain ⟨rfl, rfl⟩ := trodVars_none hV
  obtain ⟨c0, t0, rfl, ht0⟩ := open_type (hval 0 25 v0 rfl rfl) h0
  obtain ⟨c1, t1, rfl, ht1⟩ := open_type (hval 1 25 v1 rfl rfl) h1
  have hlt := hW'.lt
  clear hA0 hval0
  refine (bounds_c t0 t1 c0 c1 W.heap.size W ht0 ht1 (Nat.le_refl _)).mono fun e W' ⟨he, bel⟩ => ?_
  subst he
  have a0 := Below.trod laidOut (by kernel_rfl) (of_decide_eq_true (by kernel_rfl)) h0 bel (fun x hx => hlt x (by simp [hx]))
  have a1 := Below.trod laidOut (by kernel_rfl) (of_decide_eq_true (by kernel_rfl)) h1 bel (fun x hx => hlt x (by simp [hx]))
  exact ⟨_, rfl, _, _, _, [], _, [], hW', trodAll_mk1 (shut_bool Try.underlying4 _), (trodAll_cons_mk a0 (trodAll_cons_mk a1 trodAll_mk0)), rfl, bel.frame _, fun h => by cases h⟩
theorem bounds_holds : Rows.SubBoundsSaid :=
  OpenClaim.holds_of_wide 7 Try.f7 rfl rfl rfl rfl rfl rfl rfl ⟨rfl, rfl, rfl, rfl, rfl⟩ rfl rfl rfl rfl rfl (by kernel_rfl) Try.func7 (by kernel_rfl)
    (of_decide_eq_true (by kernel_rfl)) (by unfold Func.isWrapper; first | (rw [if_pos (by decide +kernel)]; kernel_rfl) | (rw [if_neg (by decide +kernel)]; exact ⟨rfl, rfl⟩))
    (fun os started H enc _ => bounds_lifted os started H enc)
#print axioms bounds_holds
end Go.Proofs.Ytalpmjmifcofeaa
