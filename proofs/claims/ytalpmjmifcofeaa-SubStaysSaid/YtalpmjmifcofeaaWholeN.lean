/- The contracts of sub.whole, Join, Meet and Joins. -/
import Derived.Test.YtalpmjmifcofeaaWhole
import Derived.Test.YtalpmjmifcofeaaBoundC
import Derived.Deep.Cut
namespace Go.Proofs.Ytalpmjmifcofeaa
open Go.RowKit
set_option linter.unusedSimpArgs false
set_option linter.unusedVariables false
theorem zero_tym (w : World) (M : Nat → Prop) : TyM w M zeroTy #[.int .i64 0, .string { data := #[] }, .int .i64 0, .string { data := #[] }, .string { data := #[] }, .slice none 0 0, .slice none 0 0] :=
  ((zero_tyc w 0).toM.mono fun b hb => by omega)
set_option maxRecDepth 100000 in
set_option maxHeartbeats 4000000 in
theorem whole_no1 (a b : Ty) (up : Bool) (cs cs' : Array Value) (B : Nat) (w : World) (ha : TyC w B a cs) (hb : TyC w B b cs') (hB : B ≤ w.heap.size) (pa : PlainB a = false) :
    Calls Try.prog 38 #[.agg cs, .agg cs', .bool up] w fun e w' => (∃ cs'', e = .returned (.tuple #[.agg cs'', .bool false]) ∧ TyM w' (Fresh w w') zeroTy cs'') ∧ Below w.heap.size w w' := by
  obtain ⟨na, nc, sa, sc, f, rfl, -⟩ := ha.inv
  obtain ⟨na', nc', sa', sc', f', rfl, -⟩ := hb.inv
  have HA := Lib.hid ha
  have HB := Lib.hid hb
  have PA := Lib.hid pa
  clear ha hb pa
  go_enter Try.func38, Try.ntmps38
  simp only [tyCells]
  go_wp2_with fail
  have h3 := boxes3 w #[.int .i64 a.kind, .string a.pkg, .int .i64 a.major, .string a.mod, .string a.name, .slice na a.names.length nc, .slice sa a.subs.length sc] #[.int .i64 b.kind, .string b.pkg, .int .i64 b.major, .string b.mod, .string b.name, .slice na' b.names.length nc', .slice sa' b.subs.length sc'] #[.int .i64 0, .string { data := #[] }, .int .i64 0, .string { data := #[] }, .string { data := #[] }, .slice none 0 0, .slice none 0 0] 25
  generalize (((w.alloc (.cells #[.int .i64 a.kind, .string a.pkg, .int .i64 a.major, .string a.mod, .string a.name, .slice na a.names.length nc, .slice sa a.subs.length sc] 25)).alloc (.cells #[.int .i64 b.kind, .string b.pkg, .int .i64 b.major, .string b.mod, .string b.name, .slice na' b.names.length nc', .slice sa' b.subs.length sc'] 25)).alloc (.cells #[.int .i64 0, .string { data := #[] }, .int .i64 0, .string { data := #[] }, .string { data := #[] }, .slice none 0 0, .slice none 0 0] 25)) = W at h3 ⊢
  obtain ⟨x0, x1, x2, xs, xb⟩ := h3
  have X0 := Lib.hid x0
  have X1 := Lib.hid x1
  have X2 := Lib.hid x2
  have XB := Lib.hid xb
  have hsz := xb.size
  have hA := HA.out.under (xb.mono hB)
  have hB' := HB.out.under (xb.mono hB)
  simp only [tyCells] at hA hB'
  have HA1 := Lib.hid hA
  have HB1 := Lib.hid hB'
  have hBW : B ≤ W.heap.size := Nat.le_trans hB hsz
  refine (Plain_c a _ B W hA hBW).mono ?_
  rintro e w1 ⟨rfl, hb1⟩
  have y1 := x1.under hb1 x1.lt
  have b0 := y1.cell 0
  have b1 := y1.cell 1
  have b2 := y1.cell 2
  have b3 := y1.cell 3
  have b4 := y1.cell 4
  have b5 := y1.cell 5
  have b6 := y1.cell 6
  simp at b0 b1 b2 b3 b4 b5 b6
  have Y0 := Lib.hid (x0.under hb1 x0.lt)
  have Y1 := Lib.hid y1
  have Y2 := Lib.hid (x2.under hb1 x2.lt)
  have B1 := Lib.hid hb1
  have s1 := hb1.size
  rw [PA.out]
  clear x0 x1 x2 xb hA hB' y1 hb1
  have zz := Y2.out
  have z0 := zz.cell 0
  have f0 := zz.free 0
  have z1 := zz.cell 1
  have f1 := zz.free 1
  have z2 := zz.cell 2
  have f2 := zz.free 2
  have z3 := zz.cell 3
  have f3 := zz.free 3
  have z4 := zz.cell 4
  have f4 := zz.free 4
  have z5 := zz.cell 5
  have f5 := zz.free 5
  have z6 := zz.cell 6
  have f6 := zz.free 6
  simp at z0 z1 z2 z3 z4 z5 z6
  have ZZ := Lib.hid zz
  clear zz b0 b1 b2 b3 b4 b5 b6
  go_wp2_with fail
  have hbl := put7_bel (.int .i64 0) (.string { data := #[] }) (.int .i64 0) (.string { data := #[] }) (.string { data := #[] }) (.slice none 0 0) (.slice none 0 0) (acc0 XB.out XB.out.size B1.out) (show w.heap.size ≤ w.heap.size + 1 + 1 by omega)
  have hblk := put7_full (.int .i64 0) (.string { data := #[] }) (.int .i64 0) (.string { data := #[] }) (.string { data := #[] }) (.slice none 0 0) (.slice none 0 0) ZZ.out
  generalize (((((((w1.setCell ⟨w.heap.size + 1 + 1, 0, none⟩ (.int .i64 0)).setCell ⟨w.heap.size + 1 + 1, 1, none⟩ (.string { data := #[] })).setCell ⟨w.heap.size + 1 + 1, 2, none⟩ (.int .i64 0)).setCell ⟨w.heap.size + 1 + 1, 3, none⟩ (.string { data := #[] })).setCell ⟨w.heap.size + 1 + 1, 4, none⟩ (.string { data := #[] })).setCell ⟨w.heap.size + 1 + 1, 5, none⟩ (.slice none 0 0)).setCell ⟨w.heap.size + 1 + 1, 6, none⟩ (.slice none 0 0)) = Wz at hbl hblk ⊢
  have q0 := hblk.cell 0
  have q1 := hblk.cell 1
  have q2 := hblk.cell 2
  have q3 := hblk.cell 3
  have q4 := hblk.cell 4
  have q5 := hblk.cell 5
  have q6 := hblk.cell 6
  simp at q0 q1 q2 q3 q4 q5 q6
  refine bodyPost_ret (by simp [results, Try.results38, go_sem, q0, q1, q2, q3, q4, q5, q6]; try rfl) rfl ?_
  exact ⟨⟨_, rfl, zero_tym _ _⟩, hbl⟩
set_option maxRecDepth 100000 in
set_option maxHeartbeats 4000000 in
theorem whole_no2 (a b : Ty) (up : Bool) (cs cs' : Array Value) (B : Nat) (w : World) (ha : TyC w B a cs) (hb : TyC w B b cs') (hB : B ≤ w.heap.size) (pa : PlainB a = true) (pb : PlainB b = false) :
    Calls Try.prog 38 #[.agg cs, .agg cs', .bool up] w fun e w' => (∃ cs'', e = .returned (.tuple #[.agg cs'', .bool false]) ∧ TyM w' (Fresh w w') zeroTy cs'') ∧ Below w.heap.size w w' := by
  obtain ⟨na, nc, sa, sc, f, rfl, -⟩ := ha.inv
  obtain ⟨na', nc', sa', sc', f', rfl, -⟩ := hb.inv
  have HA := Lib.hid ha
  have HB := Lib.hid hb
  have PA := Lib.hid pa
  have PB := Lib.hid pb
  clear ha hb pa pb
  go_enter Try.func38, Try.ntmps38
  simp only [tyCells]
  go_wp2_with fail
  have h3 := boxes3 w #[.int .i64 a.kind, .string a.pkg, .int .i64 a.major, .string a.mod, .string a.name, .slice na a.names.length nc, .slice sa a.subs.length sc] #[.int .i64 b.kind, .string b.pkg, .int .i64 b.major, .string b.mod, .string b.name, .slice na' b.names.length nc', .slice sa' b.subs.length sc'] #[.int .i64 0, .string { data := #[] }, .int .i64 0, .string { data := #[] }, .string { data := #[] }, .slice none 0 0, .slice none 0 0] 25
  generalize (((w.alloc (.cells #[.int .i64 a.kind, .string a.pkg, .int .i64 a.major, .string a.mod, .string a.name, .slice na a.names.length nc, .slice sa a.subs.length sc] 25)).alloc (.cells #[.int .i64 b.kind, .string b.pkg, .int .i64 b.major, .string b.mod, .string b.name, .slice na' b.names.length nc', .slice sa' b.subs.length sc'] 25)).alloc (.cells #[.int .i64 0, .string { data := #[] }, .int .i64 0, .string { data := #[] }, .string { data := #[] }, .slice none 0 0, .slice none 0 0] 25)) = W at h3 ⊢
  obtain ⟨x0, x1, x2, xs, xb⟩ := h3
  have X0 := Lib.hid x0
  have X1 := Lib.hid x1
  have X2 := Lib.hid x2
  have XB := Lib.hid xb
  have hsz := xb.size
  have hA := HA.out.under (xb.mono hB)
  have hB' := HB.out.under (xb.mono hB)
  simp only [tyCells] at hA hB'
  have HA1 := Lib.hid hA
  have HB1 := Lib.hid hB'
  have hBW : B ≤ W.heap.size := Nat.le_trans hB hsz
  refine (Plain_c a _ B W hA hBW).mono ?_
  rintro e w1 ⟨rfl, hb1⟩
  have y1 := x1.under hb1 x1.lt
  have b0 := y1.cell 0
  have b1 := y1.cell 1
  have b2 := y1.cell 2
  have b3 := y1.cell 3
  have b4 := y1.cell 4
  have b5 := y1.cell 5
  have b6 := y1.cell 6
  simp at b0 b1 b2 b3 b4 b5 b6
  have Y0 := Lib.hid (x0.under hb1 x0.lt)
  have Y1 := Lib.hid y1
  have Y2 := Lib.hid (x2.under hb1 x2.lt)
  have B1 := Lib.hid hb1
  have s1 := hb1.size
  rw [PA.out]
  clear x0 x1 x2 xb hA hB' y1 hb1
  go_wp2_with fail
  refine (Plain_c b _ B w1 (HB1.out.under (B1.out.mono hBW)) (by omega)).mono ?_
  rintro e w2 ⟨rfl, hb2⟩
  have y0 := Y0.out.under hb2 Y0.out.lt
  have y1 := Y1.out.under hb2 Y1.out.lt
  clear b0 b1 b2 b3 b4 b5 b6
  have b0 := y1.cell 0
  have b1 := y1.cell 1
  have b2 := y1.cell 2
  have b3 := y1.cell 3
  have b4 := y1.cell 4
  have b5 := y1.cell 5
  have b6 := y1.cell 6
  simp at b0 b1 b2 b3 b4 b5 b6
  have a0 := y0.cell 0
  have a1 := y0.cell 1
  have a2 := y0.cell 2
  have a3 := y0.cell 3
  have a4 := y0.cell 4
  have a5 := y0.cell 5
  have a6 := y0.cell 6
  simp at a0 a1 a2 a3 a4 a5 a6
  have Z2 := Lib.hid (Y2.out.under hb2 Y2.out.lt)
  have B2 := Lib.hid hb2
  have s2 := hb2.size
  rw [PB.out]
  clear y0 y1 hb2
  have zz := Z2.out
  have z0 := zz.cell 0
  have f0 := zz.free 0
  have z1 := zz.cell 1
  have f1 := zz.free 1
  have z2 := zz.cell 2
  have f2 := zz.free 2
  have z3 := zz.cell 3
  have f3 := zz.free 3
  have z4 := zz.cell 4
  have f4 := zz.free 4
  have z5 := zz.cell 5
  have f5 := zz.free 5
  have z6 := zz.cell 6
  have f6 := zz.free 6
  simp at z0 z1 z2 z3 z4 z5 z6
  have ZZ := Lib.hid zz
  clear zz a0 a1 a2 a3 a4 a5 a6 b0 b1 b2 b3 b4 b5 b6
  go_wp2_with fail
  have hbl := put7_bel (.int .i64 0) (.string { data := #[] }) (.int .i64 0) (.string { data := #[] }) (.string { data := #[] }) (.slice none 0 0) (.slice none 0 0) (acc0 (acc0 XB.out XB.out.size B1.out) (by omega) B2.out) (show w.heap.size ≤ w.heap.size + 1 + 1 by omega)
  have hblk := put7_full (.int .i64 0) (.string { data := #[] }) (.int .i64 0) (.string { data := #[] }) (.string { data := #[] }) (.slice none 0 0) (.slice none 0 0) ZZ.out
  generalize (((((((w2.setCell ⟨w.heap.size + 1 + 1, 0, none⟩ (.int .i64 0)).setCell ⟨w.heap.size + 1 + 1, 1, none⟩ (.string { data := #[] })).setCell ⟨w.heap.size + 1 + 1, 2, none⟩ (.int .i64 0)).setCell ⟨w.heap.size + 1 + 1, 3, none⟩ (.string { data := #[] })).setCell ⟨w.heap.size + 1 + 1, 4, none⟩ (.string { data := #[] })).setCell ⟨w.heap.size + 1 + 1, 5, none⟩ (.slice none 0 0)).setCell ⟨w.heap.size + 1 + 1, 6, none⟩ (.slice none 0 0)) = Wz at hbl hblk ⊢
  have q0 := hblk.cell 0
  have q1 := hblk.cell 1
  have q2 := hblk.cell 2
  have q3 := hblk.cell 3
  have q4 := hblk.cell 4
  have q5 := hblk.cell 5
  have q6 := hblk.cell 6
  simp at q0 q1 q2 q3 q4 q5 q6
  refine bodyPost_ret (by simp [results, Try.results38, go_sem, q0, q1, q2, q3, q4, q5, q6]; try rfl) rfl ?_
  exact ⟨⟨_, rfl, zero_tym _ _⟩, hbl⟩
set_option maxRecDepth 100000 in
set_option maxHeartbeats 4000000 in
theorem whole_no3 (a b : Ty) (up : Bool) (cs cs' : Array Value) (B : Nat) (w : World) (ha : TyC w B a cs) (hb : TyC w B b cs') (hB : B ≤ w.heap.size) (pa : PlainB a = true) (pb : PlainB b = true) (hbd : BoundAt a b up none) :
    Calls Try.prog 38 #[.agg cs, .agg cs', .bool up] w fun e w' => (∃ cs'', e = .returned (.tuple #[.agg cs'', .bool false]) ∧ TyM w' (Fresh w w') zeroTy cs'') ∧ Below w.heap.size w w' := by
  obtain ⟨na, nc, sa, sc, f, rfl, -⟩ := ha.inv
  obtain ⟨na', nc', sa', sc', f', rfl, -⟩ := hb.inv
  have HA := Lib.hid ha
  have HB := Lib.hid hb
  have PA := Lib.hid pa
  have PB := Lib.hid pb
  have HBD := Lib.hid hbd
  clear ha hb pa pb hbd
  go_enter Try.func38, Try.ntmps38
  simp only [tyCells]
  go_wp2_with fail
  have h3 := boxes3 w #[.int .i64 a.kind, .string a.pkg, .int .i64 a.major, .string a.mod, .string a.name, .slice na a.names.length nc, .slice sa a.subs.length sc] #[.int .i64 b.kind, .string b.pkg, .int .i64 b.major, .string b.mod, .string b.name, .slice na' b.names.length nc', .slice sa' b.subs.length sc'] #[.int .i64 0, .string { data := #[] }, .int .i64 0, .string { data := #[] }, .string { data := #[] }, .slice none 0 0, .slice none 0 0] 25
  generalize (((w.alloc (.cells #[.int .i64 a.kind, .string a.pkg, .int .i64 a.major, .string a.mod, .string a.name, .slice na a.names.length nc, .slice sa a.subs.length sc] 25)).alloc (.cells #[.int .i64 b.kind, .string b.pkg, .int .i64 b.major, .string b.mod, .string b.name, .slice na' b.names.length nc', .slice sa' b.subs.length sc'] 25)).alloc (.cells #[.int .i64 0, .string { data := #[] }, .int .i64 0, .string { data := #[] }, .string { data := #[] }, .slice none 0 0, .slice none 0 0] 25)) = W at h3 ⊢
  obtain ⟨x0, x1, x2, xs, xb⟩ := h3
  have X0 := Lib.hid x0
  have X1 := Lib.hid x1
  have X2 := Lib.hid x2
  have XB := Lib.hid xb
  have hsz := xb.size
  have hA := HA.out.under (xb.mono hB)
  have hB' := HB.out.under (xb.mono hB)
  simp only [tyCells] at hA hB'
  have HA1 := Lib.hid hA
  have HB1 := Lib.hid hB'
  have hBW : B ≤ W.heap.size := Nat.le_trans hB hsz
  refine (Plain_c a _ B W hA hBW).mono ?_
  rintro e w1 ⟨rfl, hb1⟩
  have y1 := x1.under hb1 x1.lt
  have b0 := y1.cell 0
  have b1 := y1.cell 1
  have b2 := y1.cell 2
  have b3 := y1.cell 3
  have b4 := y1.cell 4
  have b5 := y1.cell 5
  have b6 := y1.cell 6
  simp at b0 b1 b2 b3 b4 b5 b6
  have Y0 := Lib.hid (x0.under hb1 x0.lt)
  have Y1 := Lib.hid y1
  have Y2 := Lib.hid (x2.under hb1 x2.lt)
  have B1 := Lib.hid hb1
  have s1 := hb1.size
  rw [PA.out]
  clear x0 x1 x2 xb hA hB' y1 hb1
  go_wp2_with fail
  refine (Plain_c b _ B w1 (HB1.out.under (B1.out.mono hBW)) (by omega)).mono ?_
  rintro e w2 ⟨rfl, hb2⟩
  have y0 := Y0.out.under hb2 Y0.out.lt
  have y1 := Y1.out.under hb2 Y1.out.lt
  clear b0 b1 b2 b3 b4 b5 b6
  have b0 := y1.cell 0
  have b1 := y1.cell 1
  have b2 := y1.cell 2
  have b3 := y1.cell 3
  have b4 := y1.cell 4
  have b5 := y1.cell 5
  have b6 := y1.cell 6
  simp at b0 b1 b2 b3 b4 b5 b6
  have a0 := y0.cell 0
  have a1 := y0.cell 1
  have a2 := y0.cell 2
  have a3 := y0.cell 3
  have a4 := y0.cell 4
  have a5 := y0.cell 5
  have a6 := y0.cell 6
  simp at a0 a1 a2 a3 a4 a5 a6
  have Z2 := Lib.hid (Y2.out.under hb2 Y2.out.lt)
  have B2 := Lib.hid hb2
  have s2 := hb2.size
  rw [PB.out]
  clear y0 y1 hb2
  go_wp2_with fail
  have B12 := Lib.hid (B1.out.trans (B2.out.mono s1))
  refine (HBD.out _ _ B w2 (HA1.out.under (B12.out.mono hBW)) (HB1.out.under (B12.out.mono hBW)) (by omega)).mono ?_
  rintro e w3 ⟨⟨t', cs2, rfl, ht, htm⟩, hb3⟩
  obtain ⟨na2, nc2, sa2, sc2, f2, rfl, -⟩ := htm.inv
  have HT := Lib.hid htm
  have B3 := Lib.hid hb3
  have s3 := hb3.size
  simp only [tyCells, Option.isSome_none]
  clear htm hb3 a0 a1 a2 a3 a4 a5 a6 b0 b1 b2 b3 b4 b5 b6 ht
  go_upto_region 4 with fail
  have hTC : TyC w3 w3.heap.size t' #[.int .i64 t'.kind, .string t'.pkg, .int .i64 t'.major, .string t'.mod, .string t'.name, .slice na2 t'.names.length nc2, .slice sa2 t'.subs.length sc2] := (HT.out.mono fun b hb => by
    rcases hb with hb | hb
    · show b < w3.heap.size
      omega
    · exact hb.2).toC
  have hTB := Blk.new w3 #[.int .i64 t'.kind, .string t'.pkg, .int .i64 t'.major, .string t'.mod, .string t'.name, .slice na2 t'.names.length nc2, .slice sa2 t'.subs.length sc2] 25
  have hT4 := hTC.alloc (Nat.le_refl _) (.cells #[.int .i64 t'.kind, .string t'.pkg, .int .i64 t'.major, .string t'.mod, .string t'.name, .slice na2 t'.names.length nc2, .slice sa2 t'.subs.length sc2] 25)
  have hZ4 := (Z2.out.under B3.out Z2.out.lt).alloc (.cells #[.int .i64 t'.kind, .string t'.pkg, .int .i64 t'.major, .string t'.mod, .string t'.name, .slice na2 t'.names.length nc2, .slice sa2 t'.subs.length sc2] 25)
  have hB4 : Below w2.heap.size w2 (w3.alloc (.cells #[.int .i64 t'.kind, .string t'.pkg, .int .i64 t'.major, .string t'.mod, .string t'.name, .slice na2 t'.names.length nc2, .slice sa2 t'.subs.length sc2] 25)) := B3.out.alloc s3 _
  have hs4 : (w3.alloc (.cells #[.int .i64 t'.kind, .string t'.pkg, .int .i64 t'.major, .string t'.mod, .string t'.name, .slice na2 t'.names.length nc2, .slice sa2 t'.subs.length sc2] 25)).heap.size = w3.heap.size + 1 := by simp
  generalize hy : w3.heap.size = yb at hTB hT4 hs4 ⊢
  generalize (w3.alloc (.cells #[.int .i64 t'.kind, .string t'.pkg, .int .i64 t'.major, .string t'.mod, .string t'.name, .slice na2 t'.names.length nc2, .slice sa2 t'.subs.length sc2] 25)) = W4 at hTB hT4 hZ4 hB4 hs4 ⊢
  have HTB := Lib.hid hTB
  have HZ4 := Lib.hid hZ4
  have HB4 := Lib.hid hB4
  clear hTC hTB hT4 hZ4 hB4 hy
  have zz := HZ4.out
  have z0 := zz.cell 0
  have f0 := zz.free 0
  have z1 := zz.cell 1
  have f1 := zz.free 1
  have z2 := zz.cell 2
  have f2 := zz.free 2
  have z3 := zz.cell 3
  have f3 := zz.free 3
  have z4 := zz.cell 4
  have f4 := zz.free 4
  have z5 := zz.cell 5
  have f5 := zz.free 5
  have z6 := zz.cell 6
  have f6 := zz.free 6
  simp at z0 z1 z2 z3 z4 z5 z6
  have ZZ := Lib.hid zz
  clear zz 
  go_wp2_with fail
  have hbl := put7_bel (.int .i64 0) (.string { data := #[] }) (.int .i64 0) (.string { data := #[] }) (.string { data := #[] }) (.slice none 0 0) (.slice none 0 0) (acc0 (acc0 (acc0 XB.out XB.out.size B1.out) (by omega) B2.out) (by omega) HB4.out) (show w.heap.size ≤ w.heap.size + 1 + 1 by omega)
  have hblk := put7_full (.int .i64 0) (.string { data := #[] }) (.int .i64 0) (.string { data := #[] }) (.string { data := #[] }) (.slice none 0 0) (.slice none 0 0) ZZ.out
  generalize (((((((W4.setCell ⟨w.heap.size + 1 + 1, 0, none⟩ (.int .i64 0)).setCell ⟨w.heap.size + 1 + 1, 1, none⟩ (.string { data := #[] })).setCell ⟨w.heap.size + 1 + 1, 2, none⟩ (.int .i64 0)).setCell ⟨w.heap.size + 1 + 1, 3, none⟩ (.string { data := #[] })).setCell ⟨w.heap.size + 1 + 1, 4, none⟩ (.string { data := #[] })).setCell ⟨w.heap.size + 1 + 1, 5, none⟩ (.slice none 0 0)).setCell ⟨w.heap.size + 1 + 1, 6, none⟩ (.slice none 0 0)) = Wz at hbl hblk ⊢
  have q0 := hblk.cell 0
  have q1 := hblk.cell 1
  have q2 := hblk.cell 2
  have q3 := hblk.cell 3
  have q4 := hblk.cell 4
  have q5 := hblk.cell 5
  have q6 := hblk.cell 6
  simp at q0 q1 q2 q3 q4 q5 q6
  refine bodyPost_ret (by simp [results, Try.results38, go_sem, q0, q1, q2, q3, q4, q5, q6]; try rfl) rfl ?_
  exact ⟨⟨_, rfl, zero_tym _ _⟩, hbl⟩
set_option maxRecDepth 100000 in
set_option maxHeartbeats 4000000 in
theorem whole_no4 (a b : Ty) (up : Bool) (cs cs' : Array Value) (B : Nat) (w : World) (ha : TyC w B a cs) (hb : TyC w B b cs') (hB : B ≤ w.heap.size) (t : Ty) (pa : PlainB a = true) (pb : PlainB b = true) (hbd : BoundAt a b up (some t)) (hm : mayT t = false) :
    Calls Try.prog 38 #[.agg cs, .agg cs', .bool up] w fun e w' => (∃ cs'', e = .returned (.tuple #[.agg cs'', .bool false]) ∧ TyM w' (Fresh w w') zeroTy cs'') ∧ Below w.heap.size w w' := by
  obtain ⟨na, nc, sa, sc, f, rfl, -⟩ := ha.inv
  obtain ⟨na', nc', sa', sc', f', rfl, -⟩ := hb.inv
  have HA := Lib.hid ha
  have HB := Lib.hid hb
  have PA := Lib.hid pa
  have PB := Lib.hid pb
  have HBD := Lib.hid hbd
  have HM := Lib.hid hm
  clear ha hb pa pb hbd hm
  go_enter Try.func38, Try.ntmps38
  simp only [tyCells]
  go_wp2_with fail
  have h3 := boxes3 w #[.int .i64 a.kind, .string a.pkg, .int .i64 a.major, .string a.mod, .string a.name, .slice na a.names.length nc, .slice sa a.subs.length sc] #[.int .i64 b.kind, .string b.pkg, .int .i64 b.major, .string b.mod, .string b.name, .slice na' b.names.length nc', .slice sa' b.subs.length sc'] #[.int .i64 0, .string { data := #[] }, .int .i64 0, .string { data := #[] }, .string { data := #[] }, .slice none 0 0, .slice none 0 0] 25
  generalize (((w.alloc (.cells #[.int .i64 a.kind, .string a.pkg, .int .i64 a.major, .string a.mod, .string a.name, .slice na a.names.length nc, .slice sa a.subs.length sc] 25)).alloc (.cells #[.int .i64 b.kind, .string b.pkg, .int .i64 b.major, .string b.mod, .string b.name, .slice na' b.names.length nc', .slice sa' b.subs.length sc'] 25)).alloc (.cells #[.int .i64 0, .string { data := #[] }, .int .i64 0, .string { data := #[] }, .string { data := #[] }, .slice none 0 0, .slice none 0 0] 25)) = W at h3 ⊢
  obtain ⟨x0, x1, x2, xs, xb⟩ := h3
  have X0 := Lib.hid x0
  have X1 := Lib.hid x1
  have X2 := Lib.hid x2
  have XB := Lib.hid xb
  have hsz := xb.size
  have hA := HA.out.under (xb.mono hB)
  have hB' := HB.out.under (xb.mono hB)
  simp only [tyCells] at hA hB'
  have HA1 := Lib.hid hA
  have HB1 := Lib.hid hB'
  have hBW : B ≤ W.heap.size := Nat.le_trans hB hsz
  refine (Plain_c a _ B W hA hBW).mono ?_
  rintro e w1 ⟨rfl, hb1⟩
  have y1 := x1.under hb1 x1.lt
  have b0 := y1.cell 0
  have b1 := y1.cell 1
  have b2 := y1.cell 2
  have b3 := y1.cell 3
  have b4 := y1.cell 4
  have b5 := y1.cell 5
  have b6 := y1.cell 6
  simp at b0 b1 b2 b3 b4 b5 b6
  have Y0 := Lib.hid (x0.under hb1 x0.lt)
  have Y1 := Lib.hid y1
  have Y2 := Lib.hid (x2.under hb1 x2.lt)
  have B1 := Lib.hid hb1
  have s1 := hb1.size
  rw [PA.out]
  clear x0 x1 x2 xb hA hB' y1 hb1
  go_wp2_with fail
  refine (Plain_c b _ B w1 (HB1.out.under (B1.out.mono hBW)) (by omega)).mono ?_
  rintro e w2 ⟨rfl, hb2⟩
  have y0 := Y0.out.under hb2 Y0.out.lt
  have y1 := Y1.out.under hb2 Y1.out.lt
  clear b0 b1 b2 b3 b4 b5 b6
  have b0 := y1.cell 0
  have b1 := y1.cell 1
  have b2 := y1.cell 2
  have b3 := y1.cell 3
  have b4 := y1.cell 4
  have b5 := y1.cell 5
  have b6 := y1.cell 6
  simp at b0 b1 b2 b3 b4 b5 b6
  have a0 := y0.cell 0
  have a1 := y0.cell 1
  have a2 := y0.cell 2
  have a3 := y0.cell 3
  have a4 := y0.cell 4
  have a5 := y0.cell 5
  have a6 := y0.cell 6
  simp at a0 a1 a2 a3 a4 a5 a6
  have Z2 := Lib.hid (Y2.out.under hb2 Y2.out.lt)
  have B2 := Lib.hid hb2
  have s2 := hb2.size
  rw [PB.out]
  clear y0 y1 hb2
  go_wp2_with fail
  have B12 := Lib.hid (B1.out.trans (B2.out.mono s1))
  refine (HBD.out _ _ B w2 (HA1.out.under (B12.out.mono hBW)) (HB1.out.under (B12.out.mono hBW)) (by omega)).mono ?_
  rintro e w3 ⟨⟨t', cs2, rfl, ht, htm⟩, hb3⟩
  obtain rfl := ht t rfl
  obtain ⟨na2, nc2, sa2, sc2, f2, rfl, -⟩ := htm.inv
  have HT := Lib.hid htm
  have B3 := Lib.hid hb3
  have s3 := hb3.size
  simp only [tyCells, Option.isSome_some]
  clear htm hb3 a0 a1 a2 a3 a4 a5 a6 b0 b1 b2 b3 b4 b5 b6
  go_wp2_with fail
  have hTC : TyC w3 w3.heap.size t' #[.int .i64 t'.kind, .string t'.pkg, .int .i64 t'.major, .string t'.mod, .string t'.name, .slice na2 t'.names.length nc2, .slice sa2 t'.subs.length sc2] := (HT.out.mono fun b hb => by
    rcases hb with hb | hb
    · show b < w3.heap.size
      omega
    · exact hb.2).toC
  have hTB := Blk.new w3 #[.int .i64 t'.kind, .string t'.pkg, .int .i64 t'.major, .string t'.mod, .string t'.name, .slice na2 t'.names.length nc2, .slice sa2 t'.subs.length sc2] 25
  have hT4 := hTC.alloc (Nat.le_refl _) (.cells #[.int .i64 t'.kind, .string t'.pkg, .int .i64 t'.major, .string t'.mod, .string t'.name, .slice na2 t'.names.length nc2, .slice sa2 t'.subs.length sc2] 25)
  have hZ4 := (Z2.out.under B3.out Z2.out.lt).alloc (.cells #[.int .i64 t'.kind, .string t'.pkg, .int .i64 t'.major, .string t'.mod, .string t'.name, .slice na2 t'.names.length nc2, .slice sa2 t'.subs.length sc2] 25)
  have hB4 : Below w2.heap.size w2 (w3.alloc (.cells #[.int .i64 t'.kind, .string t'.pkg, .int .i64 t'.major, .string t'.mod, .string t'.name, .slice na2 t'.names.length nc2, .slice sa2 t'.subs.length sc2] 25)) := B3.out.alloc s3 _
  have hs4 : (w3.alloc (.cells #[.int .i64 t'.kind, .string t'.pkg, .int .i64 t'.major, .string t'.mod, .string t'.name, .slice na2 t'.names.length nc2, .slice sa2 t'.subs.length sc2] 25)).heap.size = w3.heap.size + 1 := by simp
  generalize hy : w3.heap.size = yb at hTB hT4 hs4 ⊢
  generalize (w3.alloc (.cells #[.int .i64 t'.kind, .string t'.pkg, .int .i64 t'.major, .string t'.mod, .string t'.name, .slice na2 t'.names.length nc2, .slice sa2 t'.subs.length sc2] 25)) = W4 at hTB hT4 hZ4 hB4 hs4 ⊢
  have HT4 := Lib.hid hT4
  have HTB := Lib.hid hTB
  have HZ4 := Lib.hid hZ4
  have HB4 := Lib.hid hB4
  clear hTC hTB hT4 hZ4 hB4
  refine (May_c t' _ yb W4 HT4.out (by omega)).mono ?_
  rintro e w5 ⟨rfl, hb5⟩
  have s5 := hb5.size
  have y1 := HTB.out.under hb5 HTB.out.lt
  have b0 := y1.cell 0
  have b1 := y1.cell 1
  have b2 := y1.cell 2
  have b3 := y1.cell 3
  have b4 := y1.cell 4
  have b5 := y1.cell 5
  have b6 := y1.cell 6
  simp at b0 b1 b2 b3 b4 b5 b6
  have B5 := Lib.hid hb5
  rw [HM.out]
  have Z5 := Lib.hid (HZ4.out.under B5.out HZ4.out.lt)
  have hsq := B12.out.size
  clear y1 hb5 b0 b1 b2 b3 b4 b5 b6
  have zz := Z5.out
  have z0 := zz.cell 0
  have f0 := zz.free 0
  have z1 := zz.cell 1
  have f1 := zz.free 1
  have z2 := zz.cell 2
  have f2 := zz.free 2
  have z3 := zz.cell 3
  have f3 := zz.free 3
  have z4 := zz.cell 4
  have f4 := zz.free 4
  have z5 := zz.cell 5
  have f5 := zz.free 5
  have z6 := zz.cell 6
  have f6 := zz.free 6
  simp at z0 z1 z2 z3 z4 z5 z6
  have ZZ := Lib.hid zz
  clear zz 
  go_wp2_with fail
  have hbl := put7_bel (.int .i64 0) (.string { data := #[] }) (.int .i64 0) (.string { data := #[] }) (.string { data := #[] }) (.slice none 0 0) (.slice none 0 0) (acc0 (acc0 (acc0 (acc0 XB.out XB.out.size B1.out) (by omega) B2.out) (by omega) HB4.out) (by omega) B5.out) (show w.heap.size ≤ w.heap.size + 1 + 1 by omega)
  have hblk := put7_full (.int .i64 0) (.string { data := #[] }) (.int .i64 0) (.string { data := #[] }) (.string { data := #[] }) (.slice none 0 0) (.slice none 0 0) ZZ.out
  generalize (((((((w5.setCell ⟨w.heap.size + 1 + 1, 0, none⟩ (.int .i64 0)).setCell ⟨w.heap.size + 1 + 1, 1, none⟩ (.string { data := #[] })).setCell ⟨w.heap.size + 1 + 1, 2, none⟩ (.int .i64 0)).setCell ⟨w.heap.size + 1 + 1, 3, none⟩ (.string { data := #[] })).setCell ⟨w.heap.size + 1 + 1, 4, none⟩ (.string { data := #[] })).setCell ⟨w.heap.size + 1 + 1, 5, none⟩ (.slice none 0 0)).setCell ⟨w.heap.size + 1 + 1, 6, none⟩ (.slice none 0 0)) = Wz at hbl hblk ⊢
  have q0 := hblk.cell 0
  have q1 := hblk.cell 1
  have q2 := hblk.cell 2
  have q3 := hblk.cell 3
  have q4 := hblk.cell 4
  have q5 := hblk.cell 5
  have q6 := hblk.cell 6
  simp at q0 q1 q2 q3 q4 q5 q6
  refine bodyPost_ret (by simp [results, Try.results38, go_sem, q0, q1, q2, q3, q4, q5, q6]; try rfl) rfl ?_
  exact ⟨⟨_, rfl, zero_tym _ _⟩, hbl⟩
def wholeF (up : Bool) (a b : Ty) : Option Ty := if PlainB a && PlainB b then (match bndF 32 up a b with | some t => if mayT t then some t else none | none => none) else none
def getT (x : Option Ty) : Ty := x.getD zeroTy
theorem whole_c (a b : Ty) (up : Bool) (cs cs' : Array Value) (B : Nat) (w : World) (ha : TyC w B a cs) (hb : TyC w B b cs') (hB : B ≤ w.heap.size) :
    Calls Try.prog 38 #[.agg cs, .agg cs', .bool up] w fun e w' => (∃ cs'', e = .returned (.tuple #[.agg cs'', .bool (wholeF up a b).isSome]) ∧ TyM w' (Fresh w w') (getT (wholeF up a b)) cs'') ∧ Below w.heap.size w w' := by
  unfold wholeF
  cases pa : PlainB a
  · exact whole_no1 a b up cs cs' B w ha hb hB pa
  cases pb : PlainB b
  · exact whole_no2 a b up cs cs' B w ha hb hB pa pb
  have hbd := bound_c 32 up a b (plain_may pa) (plain_may pb) (may_deep (plain_may pa)) (may_deep (plain_may pb))
  cases hr : bndF 32 up a b with
  | none =>
    rw [hr] at hbd
    exact whole_no3 a b up cs cs' B w ha hb hB pa pb hbd
  | some t =>
    rw [hr] at hbd
    cases hm : mayT t
    · simpa [getT, hm] using whole_no4 a b up cs cs' B w ha hb hB t pa pb hbd hm
    · simpa [getT, hm] using whole_yes a b t up cs cs' B w ha hb hB pa pb hbd hm
set_option maxRecDepth 100000 in
set_option maxHeartbeats 4000000 in
theorem Join_c (a b : Ty) (cs cs' : Array Value) (B : Nat) (w : World) (ha : TyC w B a cs) (hb : TyC w B b cs') (hB : B ≤ w.heap.size) :
    Calls Try.prog 16 #[.agg cs, .agg cs'] w fun e w' => (∃ cs'', e = .returned (.tuple #[.agg cs'', .bool (wholeF true a b).isSome]) ∧ TyM w' (Fresh w w') (getT (wholeF true a b)) cs'') ∧ Below w.heap.size w w' := by
  obtain ⟨na, nc, sa, sc, f, rfl, -⟩ := ha.inv
  obtain ⟨na', nc', sa', sc', f', rfl, -⟩ := hb.inv
  have HA := Lib.hid ha
  have HB := Lib.hid hb
  generalize hR : wholeF true a b = R
  have HR := Lib.hid hR
  generalize hT : getT R = t
  have HTT := Lib.hid hT
  clear ha hb hR hT
  go_enter Try.func16, Try.ntmps16
  simp only [tyCells]
  go_wp2_with fail
  have h3 := boxes3 w #[.int .i64 a.kind, .string a.pkg, .int .i64 a.major, .string a.mod, .string a.name, .slice na a.names.length nc, .slice sa a.subs.length sc] #[.int .i64 b.kind, .string b.pkg, .int .i64 b.major, .string b.mod, .string b.name, .slice na' b.names.length nc', .slice sa' b.subs.length sc'] #[.int .i64 0, .string { data := #[] }, .int .i64 0, .string { data := #[] }, .string { data := #[] }, .slice none 0 0, .slice none 0 0] 25
  generalize (((w.alloc (.cells #[.int .i64 a.kind, .string a.pkg, .int .i64 a.major, .string a.mod, .string a.name, .slice na a.names.length nc, .slice sa a.subs.length sc] 25)).alloc (.cells #[.int .i64 b.kind, .string b.pkg, .int .i64 b.major, .string b.mod, .string b.name, .slice na' b.names.length nc', .slice sa' b.subs.length sc'] 25)).alloc (.cells #[.int .i64 0, .string { data := #[] }, .int .i64 0, .string { data := #[] }, .string { data := #[] }, .slice none 0 0, .slice none 0 0] 25)) = W at h3 ⊢
  obtain ⟨x0, x1, x2, xs, xb⟩ := h3
  have X2 := Lib.hid x2
  have XB := Lib.hid xb
  have hsz := xb.size
  have hA := HA.out.under (xb.mono hB)
  have hB' := HB.out.under (xb.mono hB)
  simp only [tyCells] at hA hB'
  have hBW : B ≤ W.heap.size := Nat.le_trans hB hsz
  have hwc := whole_c a b true _ _ B W hA hB' hBW
  rw [HR.out, HTT.out] at hwc
  refine hwc.mono ?_
  clear hwc
  rintro e w1 ⟨⟨cs3, rfl, ht6⟩, hb1⟩
  obtain ⟨na3, nc3, sa3, sc3, f3, rfl, -⟩ := ht6.inv
  have HT6 := Lib.hid ht6
  have s1 := hb1.size
  have zb := x2.under hb1 x2.lt
  have ZB := Lib.hid zb
  have B1 := Lib.hid hb1
  have z0 := zb.cell 0
  have f0 := zb.free 0
  have z1 := zb.cell 1
  have f1 := zb.free 1
  have z2 := zb.cell 2
  have f2 := zb.free 2
  have z3 := zb.cell 3
  have f3 := zb.free 3
  have z4 := zb.cell 4
  have f4 := zb.free 4
  have z5 := zb.cell 5
  have f5 := zb.free 5
  have z6 := zb.cell 6
  have f6 := zb.free 6
  simp at z0 z1 z2 z3 z4 z5 z6
  simp only [tyCells]
  clear ht6 hb1 zb x0 x1 x2 xb hA hB'
  go_wp2_with fail
  have hfin : Below w.heap.size w (((((((w1.setCell ⟨w.heap.size + 1 + 1, 0, none⟩ (.int .i64 t.kind)).setCell ⟨w.heap.size + 1 + 1, 1, none⟩ (.string t.pkg)).setCell ⟨w.heap.size + 1 + 1, 2, none⟩ (.int .i64 t.major)).setCell ⟨w.heap.size + 1 + 1, 3, none⟩ (.string t.mod)).setCell ⟨w.heap.size + 1 + 1, 4, none⟩ (.string t.name)).setCell ⟨w.heap.size + 1 + 1, 5, none⟩ (.slice na3 t.names.length nc3)).setCell ⟨w.heap.size + 1 + 1, 6, none⟩ (.slice sa3 t.subs.length sc3)) := put7_bel (.int .i64 t.kind) (.string t.pkg) (.int .i64 t.major) (.string t.mod) (.string t.name) (.slice na3 t.names.length nc3) (.slice sa3 t.subs.length sc3) (XB.out.trans (B1.out.mono (by omega))) (by omega)
  have hblk := put7_full (.int .i64 t.kind) (.string t.pkg) (.int .i64 t.major) (.string t.mod) (.string t.name) (.slice na3 t.names.length nc3) (.slice sa3 t.subs.length sc3) ZB.out
  have hty := ty_put7 (B := 0) (g := w.heap.size + 1 + 1) (.int .i64 t.kind) (.string t.pkg) (.int .i64 t.major) (.string t.mod) (.string t.name) (.slice na3 t.names.length nc3) (.slice sa3 t.subs.length sc3) (HT6.out.mono fun b hb => .inr hb) (Nat.zero_le _) (by omega)
  generalize (((((((w1.setCell ⟨w.heap.size + 1 + 1, 0, none⟩ (.int .i64 t.kind)).setCell ⟨w.heap.size + 1 + 1, 1, none⟩ (.string t.pkg)).setCell ⟨w.heap.size + 1 + 1, 2, none⟩ (.int .i64 t.major)).setCell ⟨w.heap.size + 1 + 1, 3, none⟩ (.string t.mod)).setCell ⟨w.heap.size + 1 + 1, 4, none⟩ (.string t.name)).setCell ⟨w.heap.size + 1 + 1, 5, none⟩ (.slice na3 t.names.length nc3)).setCell ⟨w.heap.size + 1 + 1, 6, none⟩ (.slice sa3 t.subs.length sc3)) = Wz at hfin hblk hty ⊢
  have q0 := hblk.cell 0
  have q1 := hblk.cell 1
  have q2 := hblk.cell 2
  have q3 := hblk.cell 3
  have q4 := hblk.cell 4
  have q5 := hblk.cell 5
  have q6 := hblk.cell 6
  simp at q0 q1 q2 q3 q4 q5 q6
  refine bodyPost_ret (by simp [results, Try.results16, go_sem, q0, q1, q2, q3, q4, q5, q6]; try rfl) rfl ?_
  exact ⟨⟨_, rfl, hty.mono fun b hb => by
    rcases hb with hb | hb
    · omega
    · exact ⟨by have := hb.1; omega, hb.2⟩⟩, hfin⟩
set_option maxRecDepth 100000 in
set_option maxHeartbeats 4000000 in
theorem Meet_c (a b : Ty) (cs cs' : Array Value) (B : Nat) (w : World) (ha : TyC w B a cs) (hb : TyC w B b cs') (hB : B ≤ w.heap.size) :
    Calls Try.prog 17 #[.agg cs, .agg cs'] w fun e w' => (∃ cs'', e = .returned (.tuple #[.agg cs'', .bool (wholeF false a b).isSome]) ∧ TyM w' (Fresh w w') (getT (wholeF false a b)) cs'') ∧ Below w.heap.size w w' := by
  obtain ⟨na, nc, sa, sc, f, rfl, -⟩ := ha.inv
  obtain ⟨na', nc', sa', sc', f', rfl, -⟩ := hb.inv
  have HA := Lib.hid ha
  have HB := Lib.hid hb
  generalize hR : wholeF false a b = R
  have HR := Lib.hid hR
  generalize hT : getT R = t
  have HTT := Lib.hid hT
  clear ha hb hR hT
  go_enter Try.func17, Try.ntmps17
  simp only [tyCells]
  go_wp2_with fail
  have h3 := boxes3 w #[.int .i64 a.kind, .string a.pkg, .int .i64 a.major, .string a.mod, .string a.name, .slice na a.names.length nc, .slice sa a.subs.length sc] #[.int .i64 b.kind, .string b.pkg, .int .i64 b.major, .string b.mod, .string b.name, .slice na' b.names.length nc', .slice sa' b.subs.length sc'] #[.int .i64 0, .string { data := #[] }, .int .i64 0, .string { data := #[] }, .string { data := #[] }, .slice none 0 0, .slice none 0 0] 25
  generalize (((w.alloc (.cells #[.int .i64 a.kind, .string a.pkg, .int .i64 a.major, .string a.mod, .string a.name, .slice na a.names.length nc, .slice sa a.subs.length sc] 25)).alloc (.cells #[.int .i64 b.kind, .string b.pkg, .int .i64 b.major, .string b.mod, .string b.name, .slice na' b.names.length nc', .slice sa' b.subs.length sc'] 25)).alloc (.cells #[.int .i64 0, .string { data := #[] }, .int .i64 0, .string { data := #[] }, .string { data := #[] }, .slice none 0 0, .slice none 0 0] 25)) = W at h3 ⊢
  obtain ⟨x0, x1, x2, xs, xb⟩ := h3
  have X2 := Lib.hid x2
  have XB := Lib.hid xb
  have hsz := xb.size
  have hA := HA.out.under (xb.mono hB)
  have hB' := HB.out.under (xb.mono hB)
  simp only [tyCells] at hA hB'
  have hBW : B ≤ W.heap.size := Nat.le_trans hB hsz
  have hwc := whole_c a b false _ _ B W hA hB' hBW
  rw [HR.out, HTT.out] at hwc
  refine hwc.mono ?_
  clear hwc
  rintro e w1 ⟨⟨cs3, rfl, ht6⟩, hb1⟩
  obtain ⟨na3, nc3, sa3, sc3, f3, rfl, -⟩ := ht6.inv
  have HT6 := Lib.hid ht6
  have s1 := hb1.size
  have zb := x2.under hb1 x2.lt
  have ZB := Lib.hid zb
  have B1 := Lib.hid hb1
  have z0 := zb.cell 0
  have f0 := zb.free 0
  have z1 := zb.cell 1
  have f1 := zb.free 1
  have z2 := zb.cell 2
  have f2 := zb.free 2
  have z3 := zb.cell 3
  have f3 := zb.free 3
  have z4 := zb.cell 4
  have f4 := zb.free 4
  have z5 := zb.cell 5
  have f5 := zb.free 5
  have z6 := zb.cell 6
  have f6 := zb.free 6
  simp at z0 z1 z2 z3 z4 z5 z6
  simp only [tyCells]
  clear ht6 hb1 zb x0 x1 x2 xb hA hB'
  go_wp2_with fail
  have hfin : Below w.heap.size w (((((((w1.setCell ⟨w.heap.size + 1 + 1, 0, none⟩ (.int .i64 t.kind)).setCell ⟨w.heap.size + 1 + 1, 1, none⟩ (.string t.pkg)).setCell ⟨w.heap.size + 1 + 1, 2, none⟩ (.int .i64 t.major)).setCell ⟨w.heap.size + 1 + 1, 3, none⟩ (.string t.mod)).setCell ⟨w.heap.size + 1 + 1, 4, none⟩ (.string t.name)).setCell ⟨w.heap.size + 1 + 1, 5, none⟩ (.slice na3 t.names.length nc3)).setCell ⟨w.heap.size + 1 + 1, 6, none⟩ (.slice sa3 t.subs.length sc3)) := put7_bel (.int .i64 t.kind) (.string t.pkg) (.int .i64 t.major) (.string t.mod) (.string t.name) (.slice na3 t.names.length nc3) (.slice sa3 t.subs.length sc3) (XB.out.trans (B1.out.mono (by omega))) (by omega)
  have hblk := put7_full (.int .i64 t.kind) (.string t.pkg) (.int .i64 t.major) (.string t.mod) (.string t.name) (.slice na3 t.names.length nc3) (.slice sa3 t.subs.length sc3) ZB.out
  have hty := ty_put7 (B := 0) (g := w.heap.size + 1 + 1) (.int .i64 t.kind) (.string t.pkg) (.int .i64 t.major) (.string t.mod) (.string t.name) (.slice na3 t.names.length nc3) (.slice sa3 t.subs.length sc3) (HT6.out.mono fun b hb => .inr hb) (Nat.zero_le _) (by omega)
  generalize (((((((w1.setCell ⟨w.heap.size + 1 + 1, 0, none⟩ (.int .i64 t.kind)).setCell ⟨w.heap.size + 1 + 1, 1, none⟩ (.string t.pkg)).setCell ⟨w.heap.size + 1 + 1, 2, none⟩ (.int .i64 t.major)).setCell ⟨w.heap.size + 1 + 1, 3, none⟩ (.string t.mod)).setCell ⟨w.heap.size + 1 + 1, 4, none⟩ (.string t.name)).setCell ⟨w.heap.size + 1 + 1, 5, none⟩ (.slice na3 t.names.length nc3)).setCell ⟨w.heap.size + 1 + 1, 6, none⟩ (.slice sa3 t.subs.length sc3)) = Wz at hfin hblk hty ⊢
  have q0 := hblk.cell 0
  have q1 := hblk.cell 1
  have q2 := hblk.cell 2
  have q3 := hblk.cell 3
  have q4 := hblk.cell 4
  have q5 := hblk.cell 5
  have q6 := hblk.cell 6
  simp at q0 q1 q2 q3 q4 q5 q6
  refine bodyPost_ret (by simp [results, Try.results17, go_sem, q0, q1, q2, q3, q4, q5, q6]; try rfl) rfl ?_
  exact ⟨⟨_, rfl, hty.mono fun b hb => by
    rcases hb with hb | hb
    · omega
    · exact ⟨by have := hb.1; omega, hb.2⟩⟩, hfin⟩
end Go.Proofs.Ytalpmjmifcofeaa
