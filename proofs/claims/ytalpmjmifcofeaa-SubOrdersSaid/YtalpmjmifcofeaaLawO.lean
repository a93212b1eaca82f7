/- merlonlaw09.SubOrders returns true. -/
import Derived.Test.YtalpmjmifcofeaaLawT
import Derived.Test.YtalpmjmifcofeaaOrdLaw
namespace Go.Proofs.Ytalpmjmifcofeaa
open Go.RowKit
set_option linter.unusedSimpArgs false
set_option linter.unusedVariables false
set_option maxRecDepth 100000 in
set_option maxHeartbeats 8000000 in
theorem orders_c (a b c : Ty) (cs cs' cs3 : Array Value) (B : Nat) (w : World) (ha : TyC w B a cs) (hb : TyC w B b cs') (hc : TyC w B c cs3) (hB : B ≤ w.heap.size) :
    Calls Try.prog 4 #[.agg cs, .agg cs', .agg cs3] w fun e w' => e = .returned (.bool true) ∧ Below w.heap.size w w' := by
  obtain ⟨na, nc, sa, sc, f, rfl, -⟩ := ha.inv
  obtain ⟨na', nc', sa', sc', f', rfl, -⟩ := hb.inv
  obtain ⟨na3, nc3, sa3, sc3, f3, rfl, -⟩ := hc.inv
  have HA := Lib.hid ha
  have HB := Lib.hid hb
  have HC := Lib.hid hc
  clear ha hb hc
  go_enter Try.func4, Try.ntmps4
  simp only [tyCells]
  go_wp2_with fail
  have h3 := boxes3 w #[.int .i64 a.kind, .string a.pkg, .int .i64 a.major, .string a.mod, .string a.name, .slice na a.names.length nc, .slice sa a.subs.length sc] #[.int .i64 b.kind, .string b.pkg, .int .i64 b.major, .string b.mod, .string b.name, .slice na' b.names.length nc', .slice sa' b.subs.length sc'] #[.int .i64 c.kind, .string c.pkg, .int .i64 c.major, .string c.mod, .string c.name, .slice na3 c.names.length nc3, .slice sa3 c.subs.length sc3] 25
  generalize (((w.alloc (.cells #[.int .i64 a.kind, .string a.pkg, .int .i64 a.major, .string a.mod, .string a.name, .slice na a.names.length nc, .slice sa a.subs.length sc] 25)).alloc (.cells #[.int .i64 b.kind, .string b.pkg, .int .i64 b.major, .string b.mod, .string b.name, .slice na' b.names.length nc', .slice sa' b.subs.length sc'] 25)).alloc (.cells #[.int .i64 c.kind, .string c.pkg, .int .i64 c.major, .string c.mod, .string c.name, .slice na3 c.names.length nc3, .slice sa3 c.subs.length sc3] 25)) = W at h3 ⊢
  obtain ⟨x0, x1, x2, xs, xb⟩ := h3
  have hsz := xb.size
  have hA := HA.out.under (xb.mono hB)
  have hB' := HB.out.under (xb.mono hB)
  have hC := HC.out.under (xb.mono hB)
  simp only [tyCells] at hA hB' hC
  have HA1 := Lib.hid hA
  have HB1 := Lib.hid hB'
  have HC1 := Lib.hid hC
  have hBW : B ≤ W.heap.size := Nat.le_trans hB hsz
  have X0 := Lib.hid x0
  have X1 := Lib.hid x1
  have X2 := Lib.hid x2
  have XB := Lib.hid xb
  have B0 := Lib.hid (Below.refl W.heap.size W)
  clear x0 x1 x2 xb hA hB' hC
  refine (up_c W).mono ?_
  rintro e w1 ⟨rfl, hb⟩
  have B1 := Lib.hid (B0.out.trans (hb.mono B0.out.size))
  have s1 := B1.out.size
  clear hb
  have p0 := (X0.out.under B1.out X0.out.lt).cell 0
  have p1 := (X0.out.under B1.out X0.out.lt).cell 1
  have p2 := (X0.out.under B1.out X0.out.lt).cell 2
  have p3 := (X0.out.under B1.out X0.out.lt).cell 3
  have p4 := (X0.out.under B1.out X0.out.lt).cell 4
  have p5 := (X0.out.under B1.out X0.out.lt).cell 5
  have p6 := (X0.out.under B1.out X0.out.lt).cell 6
  have q0 := (X1.out.under B1.out X1.out.lt).cell 0
  have q1 := (X1.out.under B1.out X1.out.lt).cell 1
  have q2 := (X1.out.under B1.out X1.out.lt).cell 2
  have q3 := (X1.out.under B1.out X1.out.lt).cell 3
  have q4 := (X1.out.under B1.out X1.out.lt).cell 4
  have q5 := (X1.out.under B1.out X1.out.lt).cell 5
  have q6 := (X1.out.under B1.out X1.out.lt).cell 6
  have r0 := (X2.out.under B1.out X2.out.lt).cell 0
  have r1 := (X2.out.under B1.out X2.out.lt).cell 1
  have r2 := (X2.out.under B1.out X2.out.lt).cell 2
  have r3 := (X2.out.under B1.out X2.out.lt).cell 3
  have r4 := (X2.out.under B1.out X2.out.lt).cell 4
  have r5 := (X2.out.under B1.out X2.out.lt).cell 5
  have r6 := (X2.out.under B1.out X2.out.lt).cell 6
  simp at p0 p1 p2 p3 p4 p5 p6 q0 q1 q2 q3 q4 q5 q6 r0 r1 r2 r3 r4 r5 r6
  go_wp2_with fail
  refine (plain0_c a _ B w1 (HA1.out.under (B1.out.mono hBW)) (by omega)).mono ?_
  rintro e w2 ⟨rfl, hb⟩
  have B2 := Lib.hid (B1.out.trans (hb.mono B1.out.size))
  have s2 := B2.out.size
  clear hb p0 p1 p2 p3 p4 p5 p6 q0 q1 q2 q3 q4 q5 q6 r0 r1 r2 r3 r4 r5 r6
  have p0 := (X0.out.under B2.out X0.out.lt).cell 0
  have p1 := (X0.out.under B2.out X0.out.lt).cell 1
  have p2 := (X0.out.under B2.out X0.out.lt).cell 2
  have p3 := (X0.out.under B2.out X0.out.lt).cell 3
  have p4 := (X0.out.under B2.out X0.out.lt).cell 4
  have p5 := (X0.out.under B2.out X0.out.lt).cell 5
  have p6 := (X0.out.under B2.out X0.out.lt).cell 6
  have q0 := (X1.out.under B2.out X1.out.lt).cell 0
  have q1 := (X1.out.under B2.out X1.out.lt).cell 1
  have q2 := (X1.out.under B2.out X1.out.lt).cell 2
  have q3 := (X1.out.under B2.out X1.out.lt).cell 3
  have q4 := (X1.out.under B2.out X1.out.lt).cell 4
  have q5 := (X1.out.under B2.out X1.out.lt).cell 5
  have q6 := (X1.out.under B2.out X1.out.lt).cell 6
  have r0 := (X2.out.under B2.out X2.out.lt).cell 0
  have r1 := (X2.out.under B2.out X2.out.lt).cell 1
  have r2 := (X2.out.under B2.out X2.out.lt).cell 2
  have r3 := (X2.out.under B2.out X2.out.lt).cell 3
  have r4 := (X2.out.under B2.out X2.out.lt).cell 4
  have r5 := (X2.out.under B2.out X2.out.lt).cell 5
  have r6 := (X2.out.under B2.out X2.out.lt).cell 6
  simp at p0 p1 p2 p3 p4 p5 p6 q0 q1 q2 q3 q4 q5 q6 r0 r1 r2 r3 r4 r5 r6
  go_wp2_with fail
  refine (plain0_c b _ B w2 (HB1.out.under (B2.out.mono hBW)) (by omega)).mono ?_
  rintro e w3 ⟨rfl, hb⟩
  have B3 := Lib.hid (B2.out.trans (hb.mono B2.out.size))
  have s3 := B3.out.size
  clear hb p0 p1 p2 p3 p4 p5 p6 q0 q1 q2 q3 q4 q5 q6 r0 r1 r2 r3 r4 r5 r6
  have p0 := (X0.out.under B3.out X0.out.lt).cell 0
  have p1 := (X0.out.under B3.out X0.out.lt).cell 1
  have p2 := (X0.out.under B3.out X0.out.lt).cell 2
  have p3 := (X0.out.under B3.out X0.out.lt).cell 3
  have p4 := (X0.out.under B3.out X0.out.lt).cell 4
  have p5 := (X0.out.under B3.out X0.out.lt).cell 5
  have p6 := (X0.out.under B3.out X0.out.lt).cell 6
  have q0 := (X1.out.under B3.out X1.out.lt).cell 0
  have q1 := (X1.out.under B3.out X1.out.lt).cell 1
  have q2 := (X1.out.under B3.out X1.out.lt).cell 2
  have q3 := (X1.out.under B3.out X1.out.lt).cell 3
  have q4 := (X1.out.under B3.out X1.out.lt).cell 4
  have q5 := (X1.out.under B3.out X1.out.lt).cell 5
  have q6 := (X1.out.under B3.out X1.out.lt).cell 6
  have r0 := (X2.out.under B3.out X2.out.lt).cell 0
  have r1 := (X2.out.under B3.out X2.out.lt).cell 1
  have r2 := (X2.out.under B3.out X2.out.lt).cell 2
  have r3 := (X2.out.under B3.out X2.out.lt).cell 3
  have r4 := (X2.out.under B3.out X2.out.lt).cell 4
  have r5 := (X2.out.under B3.out X2.out.lt).cell 5
  have r6 := (X2.out.under B3.out X2.out.lt).cell 6
  simp at p0 p1 p2 p3 p4 p5 p6 q0 q1 q2 q3 q4 q5 q6 r0 r1 r2 r3 r4 r5 r6
  go_wp2_with fail
  refine (plain0_c c _ B w3 (HC1.out.under (B3.out.mono hBW)) (by omega)).mono ?_
  rintro e w4 ⟨rfl, hb⟩
  have B4 := Lib.hid (B3.out.trans (hb.mono B3.out.size))
  have s4 := B4.out.size
  clear hb p0 p1 p2 p3 p4 p5 p6 q0 q1 q2 q3 q4 q5 q6 r0 r1 r2 r3 r4 r5 r6
  have p0 := (X0.out.under B4.out X0.out.lt).cell 0
  have p1 := (X0.out.under B4.out X0.out.lt).cell 1
  have p2 := (X0.out.under B4.out X0.out.lt).cell 2
  have p3 := (X0.out.under B4.out X0.out.lt).cell 3
  have p4 := (X0.out.under B4.out X0.out.lt).cell 4
  have p5 := (X0.out.under B4.out X0.out.lt).cell 5
  have p6 := (X0.out.under B4.out X0.out.lt).cell 6
  have q0 := (X1.out.under B4.out X1.out.lt).cell 0
  have q1 := (X1.out.under B4.out X1.out.lt).cell 1
  have q2 := (X1.out.under B4.out X1.out.lt).cell 2
  have q3 := (X1.out.under B4.out X1.out.lt).cell 3
  have q4 := (X1.out.under B4.out X1.out.lt).cell 4
  have q5 := (X1.out.under B4.out X1.out.lt).cell 5
  have q6 := (X1.out.under B4.out X1.out.lt).cell 6
  have r0 := (X2.out.under B4.out X2.out.lt).cell 0
  have r1 := (X2.out.under B4.out X2.out.lt).cell 1
  have r2 := (X2.out.under B4.out X2.out.lt).cell 2
  have r3 := (X2.out.under B4.out X2.out.lt).cell 3
  have r4 := (X2.out.under B4.out X2.out.lt).cell 4
  have r5 := (X2.out.under B4.out X2.out.lt).cell 5
  have r6 := (X2.out.under B4.out X2.out.lt).cell 6
  simp at p0 p1 p2 p3 p4 p5 p6 q0 q1 q2 q3 q4 q5 q6 r0 r1 r2 r3 r4 r5 r6
  cases ha : (FewB a && PlainB a)
  · go_wp2_with fail
    go_ret
    exact ⟨rfl, XB.out.trans (B4.out.mono hsz)⟩
  cases hb : (FewB b && PlainB b)
  · go_wp2_with fail
    go_ret
    exact ⟨rfl, XB.out.trans (B4.out.mono hsz)⟩
  cases hc : (FewB c && PlainB c)
  · go_wp2_with fail
    go_ret
    exact ⟨rfl, XB.out.trans (B4.out.mono hsz)⟩
  have Pa := Lib.hid (show PlainB a = true by rw [Bool.and_eq_true] at ha; exact ha.2)
  have Pb := Lib.hid (show PlainB b = true by rw [Bool.and_eq_true] at hb; exact hb.2)
  have Pc := Lib.hid (show PlainB c = true by rw [Bool.and_eq_true] at hc; exact hc.2)
  clear ha hb hc
  have VAA := Lib.hid (sub_refl 32 a (plain_may Pa.out) (may_deep (plain_may Pa.out)))
  have HTR := Lib.hid (sub_trans 32 a b c (plain_may Pa.out) (plain_may Pb.out) (plain_may Pc.out) (may_deep (plain_may Pa.out)) (may_deep (plain_may Pb.out)) (may_deep (plain_may Pc.out)))
  have HAN := Lib.hid (sub_anti 32 a b (plain_may Pa.out) (plain_may Pb.out) (may_deep (plain_may Pa.out)) (may_deep (plain_may Pb.out)))
  obtain ⟨v1, h1⟩ : ∃ v, subF 32 a b = v := ⟨_, rfl⟩
  obtain ⟨v2, h2⟩ : ∃ v, subF 32 b c = v := ⟨_, rfl⟩
  obtain ⟨v3, h3⟩ : ∃ v, subF 32 b a = v := ⟨_, rfl⟩
  have V1 := Lib.hid h1
  have V2 := Lib.hid h2
  have V3 := Lib.hid h3
  clear h1 h2 h3
  go_wp2_with fail
  refine (sub_plain a b _ _ B w4 (HA1.out.under (B4.out.mono hBW)) (HB1.out.under (B4.out.mono hBW)) (by omega) Pa.out Pb.out v1 V1.out).mono ?_
  rintro e w5 ⟨rfl, hb⟩
  have B5 := Lib.hid (B4.out.trans (hb.mono B4.out.size))
  have s5 := B5.out.size
  clear hb p0 p1 p2 p3 p4 p5 p6 q0 q1 q2 q3 q4 q5 q6 r0 r1 r2 r3 r4 r5 r6
  have p0 := (X0.out.under B5.out X0.out.lt).cell 0
  have p1 := (X0.out.under B5.out X0.out.lt).cell 1
  have p2 := (X0.out.under B5.out X0.out.lt).cell 2
  have p3 := (X0.out.under B5.out X0.out.lt).cell 3
  have p4 := (X0.out.under B5.out X0.out.lt).cell 4
  have p5 := (X0.out.under B5.out X0.out.lt).cell 5
  have p6 := (X0.out.under B5.out X0.out.lt).cell 6
  have q0 := (X1.out.under B5.out X1.out.lt).cell 0
  have q1 := (X1.out.under B5.out X1.out.lt).cell 1
  have q2 := (X1.out.under B5.out X1.out.lt).cell 2
  have q3 := (X1.out.under B5.out X1.out.lt).cell 3
  have q4 := (X1.out.under B5.out X1.out.lt).cell 4
  have q5 := (X1.out.under B5.out X1.out.lt).cell 5
  have q6 := (X1.out.under B5.out X1.out.lt).cell 6
  have r0 := (X2.out.under B5.out X2.out.lt).cell 0
  have r1 := (X2.out.under B5.out X2.out.lt).cell 1
  have r2 := (X2.out.under B5.out X2.out.lt).cell 2
  have r3 := (X2.out.under B5.out X2.out.lt).cell 3
  have r4 := (X2.out.under B5.out X2.out.lt).cell 4
  have r5 := (X2.out.under B5.out X2.out.lt).cell 5
  have r6 := (X2.out.under B5.out X2.out.lt).cell 6
  simp at p0 p1 p2 p3 p4 p5 p6 q0 q1 q2 q3 q4 q5 q6 r0 r1 r2 r3 r4 r5 r6
  go_wp2_with fail
  refine (sub_plain b c _ _ B w5 (HB1.out.under (B5.out.mono hBW)) (HC1.out.under (B5.out.mono hBW)) (by omega) Pb.out Pc.out v2 V2.out).mono ?_
  rintro e w6 ⟨rfl, hb⟩
  have B6 := Lib.hid (B5.out.trans (hb.mono B5.out.size))
  have s6 := B6.out.size
  clear hb p0 p1 p2 p3 p4 p5 p6 q0 q1 q2 q3 q4 q5 q6 r0 r1 r2 r3 r4 r5 r6
  have p0 := (X0.out.under B6.out X0.out.lt).cell 0
  have p1 := (X0.out.under B6.out X0.out.lt).cell 1
  have p2 := (X0.out.under B6.out X0.out.lt).cell 2
  have p3 := (X0.out.under B6.out X0.out.lt).cell 3
  have p4 := (X0.out.under B6.out X0.out.lt).cell 4
  have p5 := (X0.out.under B6.out X0.out.lt).cell 5
  have p6 := (X0.out.under B6.out X0.out.lt).cell 6
  have q0 := (X1.out.under B6.out X1.out.lt).cell 0
  have q1 := (X1.out.under B6.out X1.out.lt).cell 1
  have q2 := (X1.out.under B6.out X1.out.lt).cell 2
  have q3 := (X1.out.under B6.out X1.out.lt).cell 3
  have q4 := (X1.out.under B6.out X1.out.lt).cell 4
  have q5 := (X1.out.under B6.out X1.out.lt).cell 5
  have q6 := (X1.out.under B6.out X1.out.lt).cell 6
  have r0 := (X2.out.under B6.out X2.out.lt).cell 0
  have r1 := (X2.out.under B6.out X2.out.lt).cell 1
  have r2 := (X2.out.under B6.out X2.out.lt).cell 2
  have r3 := (X2.out.under B6.out X2.out.lt).cell 3
  have r4 := (X2.out.under B6.out X2.out.lt).cell 4
  have r5 := (X2.out.under B6.out X2.out.lt).cell 5
  have r6 := (X2.out.under B6.out X2.out.lt).cell 6
  simp at p0 p1 p2 p3 p4 p5 p6 q0 q1 q2 q3 q4 q5 q6 r0 r1 r2 r3 r4 r5 r6
  go_wp2_with fail
  refine (sub_plain b a _ _ B w6 (HB1.out.under (B6.out.mono hBW)) (HA1.out.under (B6.out.mono hBW)) (by omega) Pb.out Pa.out v3 V3.out).mono ?_
  rintro e w7 ⟨rfl, hb⟩
  have B7 := Lib.hid (B6.out.trans (hb.mono B6.out.size))
  have s7 := B7.out.size
  clear hb p0 p1 p2 p3 p4 p5 p6 q0 q1 q2 q3 q4 q5 q6 r0 r1 r2 r3 r4 r5 r6
  have p0 := (X0.out.under B7.out X0.out.lt).cell 0
  have p1 := (X0.out.under B7.out X0.out.lt).cell 1
  have p2 := (X0.out.under B7.out X0.out.lt).cell 2
  have p3 := (X0.out.under B7.out X0.out.lt).cell 3
  have p4 := (X0.out.under B7.out X0.out.lt).cell 4
  have p5 := (X0.out.under B7.out X0.out.lt).cell 5
  have p6 := (X0.out.under B7.out X0.out.lt).cell 6
  have q0 := (X1.out.under B7.out X1.out.lt).cell 0
  have q1 := (X1.out.under B7.out X1.out.lt).cell 1
  have q2 := (X1.out.under B7.out X1.out.lt).cell 2
  have q3 := (X1.out.under B7.out X1.out.lt).cell 3
  have q4 := (X1.out.under B7.out X1.out.lt).cell 4
  have q5 := (X1.out.under B7.out X1.out.lt).cell 5
  have q6 := (X1.out.under B7.out X1.out.lt).cell 6
  have r0 := (X2.out.under B7.out X2.out.lt).cell 0
  have r1 := (X2.out.under B7.out X2.out.lt).cell 1
  have r2 := (X2.out.under B7.out X2.out.lt).cell 2
  have r3 := (X2.out.under B7.out X2.out.lt).cell 3
  have r4 := (X2.out.under B7.out X2.out.lt).cell 4
  have r5 := (X2.out.under B7.out X2.out.lt).cell 5
  have r6 := (X2.out.under B7.out X2.out.lt).cell 6
  simp at p0 p1 p2 p3 p4 p5 p6 q0 q1 q2 q3 q4 q5 q6 r0 r1 r2 r3 r4 r5 r6
  go_wp2_with fail
  refine (sub_plain a a _ _ B w7 (HA1.out.under (B7.out.mono hBW)) (HA1.out.under (B7.out.mono hBW)) (by omega) Pa.out Pa.out true VAA.out).mono ?_
  rintro e w8 ⟨rfl, hb⟩
  have B8 := Lib.hid (B7.out.trans (hb.mono B7.out.size))
  have s8 := B8.out.size
  clear hb p0 p1 p2 p3 p4 p5 p6 q0 q1 q2 q3 q4 q5 q6 r0 r1 r2 r3 r4 r5 r6
  have p0 := (X0.out.under B8.out X0.out.lt).cell 0
  have p1 := (X0.out.under B8.out X0.out.lt).cell 1
  have p2 := (X0.out.under B8.out X0.out.lt).cell 2
  have p3 := (X0.out.under B8.out X0.out.lt).cell 3
  have p4 := (X0.out.under B8.out X0.out.lt).cell 4
  have p5 := (X0.out.under B8.out X0.out.lt).cell 5
  have p6 := (X0.out.under B8.out X0.out.lt).cell 6
  have q0 := (X1.out.under B8.out X1.out.lt).cell 0
  have q1 := (X1.out.under B8.out X1.out.lt).cell 1
  have q2 := (X1.out.under B8.out X1.out.lt).cell 2
  have q3 := (X1.out.under B8.out X1.out.lt).cell 3
  have q4 := (X1.out.under B8.out X1.out.lt).cell 4
  have q5 := (X1.out.under B8.out X1.out.lt).cell 5
  have q6 := (X1.out.under B8.out X1.out.lt).cell 6
  have r0 := (X2.out.under B8.out X2.out.lt).cell 0
  have r1 := (X2.out.under B8.out X2.out.lt).cell 1
  have r2 := (X2.out.under B8.out X2.out.lt).cell 2
  have r3 := (X2.out.under B8.out X2.out.lt).cell 3
  have r4 := (X2.out.under B8.out X2.out.lt).cell 4
  have r5 := (X2.out.under B8.out X2.out.lt).cell 5
  have r6 := (X2.out.under B8.out X2.out.lt).cell 6
  simp at p0 p1 p2 p3 p4 p5 p6 q0 q1 q2 q3 q4 q5 q6 r0 r1 r2 r3 r4 r5 r6
  cases v1
  · go_wp2_with fail
    go_ret
    exact ⟨rfl, XB.out.trans (B8.out.mono hsz)⟩
  cases v2
  · cases v3
    · go_wp2_with fail
      go_ret
      exact ⟨rfl, XB.out.trans (B8.out.mono hsz)⟩
    · go_wp2_with fail
      refine (rSame_c a b _ _ B w8 (HA1.out.under (B8.out.mono hBW)) (HB1.out.under (B8.out.mono hBW)) (by omega)).mono ?_
      rintro e w9 ⟨rfl, hb⟩
      have B9 := Lib.hid (B8.out.trans (hb.mono B8.out.size))
      have s9 := B9.out.size
      clear hb p0 p1 p2 p3 p4 p5 p6 q0 q1 q2 q3 q4 q5 q6 r0 r1 r2 r3 r4 r5 r6
      have p0 := (X0.out.under B9.out X0.out.lt).cell 0
      have p1 := (X0.out.under B9.out X0.out.lt).cell 1
      have p2 := (X0.out.under B9.out X0.out.lt).cell 2
      have p3 := (X0.out.under B9.out X0.out.lt).cell 3
      have p4 := (X0.out.under B9.out X0.out.lt).cell 4
      have p5 := (X0.out.under B9.out X0.out.lt).cell 5
      have p6 := (X0.out.under B9.out X0.out.lt).cell 6
      have q0 := (X1.out.under B9.out X1.out.lt).cell 0
      have q1 := (X1.out.under B9.out X1.out.lt).cell 1
      have q2 := (X1.out.under B9.out X1.out.lt).cell 2
      have q3 := (X1.out.under B9.out X1.out.lt).cell 3
      have q4 := (X1.out.under B9.out X1.out.lt).cell 4
      have q5 := (X1.out.under B9.out X1.out.lt).cell 5
      have q6 := (X1.out.under B9.out X1.out.lt).cell 6
      have r0 := (X2.out.under B9.out X2.out.lt).cell 0
      have r1 := (X2.out.under B9.out X2.out.lt).cell 1
      have r2 := (X2.out.under B9.out X2.out.lt).cell 2
      have r3 := (X2.out.under B9.out X2.out.lt).cell 3
      have r4 := (X2.out.under B9.out X2.out.lt).cell 4
      have r5 := (X2.out.under B9.out X2.out.lt).cell 5
      have r6 := (X2.out.under B9.out X2.out.lt).cell 6
      simp at p0 p1 p2 p3 p4 p5 p6 q0 q1 q2 q3 q4 q5 q6 r0 r1 r2 r3 r4 r5 r6
      rw [(alike_iff a b).2 (HAN.out V1.out V3.out)]
      go_wp2_with fail
      go_ret
      exact ⟨rfl, XB.out.trans (B9.out.mono hsz)⟩
  · go_wp2_with fail
    refine (sub_plain a c _ _ B w8 (HA1.out.under (B8.out.mono hBW)) (HC1.out.under (B8.out.mono hBW)) (by omega) Pa.out Pc.out true (HTR.out V1.out V2.out)).mono ?_
    rintro e w9 ⟨rfl, hb⟩
    have B9 := Lib.hid (B8.out.trans (hb.mono B8.out.size))
    have s9 := B9.out.size
    clear hb p0 p1 p2 p3 p4 p5 p6 q0 q1 q2 q3 q4 q5 q6 r0 r1 r2 r3 r4 r5 r6
    have p0 := (X0.out.under B9.out X0.out.lt).cell 0
    have p1 := (X0.out.under B9.out X0.out.lt).cell 1
    have p2 := (X0.out.under B9.out X0.out.lt).cell 2
    have p3 := (X0.out.under B9.out X0.out.lt).cell 3
    have p4 := (X0.out.under B9.out X0.out.lt).cell 4
    have p5 := (X0.out.under B9.out X0.out.lt).cell 5
    have p6 := (X0.out.under B9.out X0.out.lt).cell 6
    have q0 := (X1.out.under B9.out X1.out.lt).cell 0
    have q1 := (X1.out.under B9.out X1.out.lt).cell 1
    have q2 := (X1.out.under B9.out X1.out.lt).cell 2
    have q3 := (X1.out.under B9.out X1.out.lt).cell 3
    have q4 := (X1.out.under B9.out X1.out.lt).cell 4
    have q5 := (X1.out.under B9.out X1.out.lt).cell 5
    have q6 := (X1.out.under B9.out X1.out.lt).cell 6
    have r0 := (X2.out.under B9.out X2.out.lt).cell 0
    have r1 := (X2.out.under B9.out X2.out.lt).cell 1
    have r2 := (X2.out.under B9.out X2.out.lt).cell 2
    have r3 := (X2.out.under B9.out X2.out.lt).cell 3
    have r4 := (X2.out.under B9.out X2.out.lt).cell 4
    have r5 := (X2.out.under B9.out X2.out.lt).cell 5
    have r6 := (X2.out.under B9.out X2.out.lt).cell 6
    simp at p0 p1 p2 p3 p4 p5 p6 q0 q1 q2 q3 q4 q5 q6 r0 r1 r2 r3 r4 r5 r6
    cases v3
    · go_wp2_with fail
      go_ret
      exact ⟨rfl, XB.out.trans (B9.out.mono hsz)⟩
    · go_wp2_with fail
      refine (rSame_c a b _ _ B w9 (HA1.out.under (B9.out.mono hBW)) (HB1.out.under (B9.out.mono hBW)) (by omega)).mono ?_
      rintro e w10 ⟨rfl, hb⟩
      have B10 := Lib.hid (B9.out.trans (hb.mono B9.out.size))
      have s10 := B10.out.size
      clear hb p0 p1 p2 p3 p4 p5 p6 q0 q1 q2 q3 q4 q5 q6 r0 r1 r2 r3 r4 r5 r6
      have p0 := (X0.out.under B10.out X0.out.lt).cell 0
      have p1 := (X0.out.under B10.out X0.out.lt).cell 1
      have p2 := (X0.out.under B10.out X0.out.lt).cell 2
      have p3 := (X0.out.under B10.out X0.out.lt).cell 3
      have p4 := (X0.out.under B10.out X0.out.lt).cell 4
      have p5 := (X0.out.under B10.out X0.out.lt).cell 5
      have p6 := (X0.out.under B10.out X0.out.lt).cell 6
      have q0 := (X1.out.under B10.out X1.out.lt).cell 0
      have q1 := (X1.out.under B10.out X1.out.lt).cell 1
      have q2 := (X1.out.under B10.out X1.out.lt).cell 2
      have q3 := (X1.out.under B10.out X1.out.lt).cell 3
      have q4 := (X1.out.under B10.out X1.out.lt).cell 4
      have q5 := (X1.out.under B10.out X1.out.lt).cell 5
      have q6 := (X1.out.under B10.out X1.out.lt).cell 6
      have r0 := (X2.out.under B10.out X2.out.lt).cell 0
      have r1 := (X2.out.under B10.out X2.out.lt).cell 1
      have r2 := (X2.out.under B10.out X2.out.lt).cell 2
      have r3 := (X2.out.under B10.out X2.out.lt).cell 3
      have r4 := (X2.out.under B10.out X2.out.lt).cell 4
      have r5 := (X2.out.under B10.out X2.out.lt).cell 5
      have r6 := (X2.out.under B10.out X2.out.lt).cell 6
      simp at p0 p1 p2 p3 p4 p5 p6 q0 q1 q2 q3 q4 q5 q6 r0 r1 r2 r3 r4 r5 r6
      rw [(alike_iff a b).2 (HAN.out V1.out V3.out)]
      go_wp2_with fail
      go_ret
      exact ⟨rfl, XB.out.trans (B10.out.mono hsz)⟩
end Go.Proofs.Ytalpmjmifcofeaa
