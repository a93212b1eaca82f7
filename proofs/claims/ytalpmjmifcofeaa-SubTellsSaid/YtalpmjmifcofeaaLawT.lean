/- merlonlaw09.SubTells returns true. -/
import Derived.Test.YtalpmjmifcofeaaUp
import Derived.Test.YtalpmjmifcofeaaPlain0
import Derived.Deep.RegionHeld3
namespace Go.Proofs.Ytalpmjmifcofeaa
open Go.RowKit
set_option linter.unusedSimpArgs false
set_option linter.unusedVariables false
theorem sub_few {a b : Ty} (h : (FewB a && PlainB a) = false) (hf : FewB a = true) : SubB a b = false := by
  rw [hf, Bool.true_and] at h
  rw [SubB, h, Bool.false_and]
theorem sub_few' {a b : Ty} (h : (FewB b && PlainB b) = false) (hf : FewB b = true) : SubB a b = false := by
  rw [hf, Bool.true_and] at h
  rw [SubB, h, Bool.false_and, Bool.and_false]
theorem boxes2 (w : World) (c0 c1 : Array Value) (T : TypeId) : Blk ((w.alloc (.cells c0 T)).alloc (.cells c1 T)) w.heap.size c0 T ∧ Blk ((w.alloc (.cells c0 T)).alloc (.cells c1 T)) (w.heap.size + 1) c1 T ∧
    ((w.alloc (.cells c0 T)).alloc (.cells c1 T)).heap.size = w.heap.size + 2 ∧ Below w.heap.size w ((w.alloc (.cells c0 T)).alloc (.cells c1 T)) := by
  have e1 : (w.alloc (.cells c0 T)).heap.size = w.heap.size + 1 := by simp
  have b1 := Blk.new (w.alloc (.cells c0 T)) c1 T
  rw [e1] at b1
  exact ⟨(Blk.new w c0 T).alloc _, b1, by simp, ((Below.refl _ _).alloc (Nat.le_refl _) _).alloc (by simp) _⟩
theorem cells2 {W w' : World} {p q : Nat} {a0 a1 a2 a3 a4 a5 a6 b0 b1 b2 b3 b4 b5 b6 : Value} {T : TypeId} (ha : Blk W p #[a0, a1, a2, a3, a4, a5, a6] T) (hb : Blk W q #[b0, b1, b2, b3, b4, b5, b6] T) (h : Below W.heap.size W w') :
    w'.cell? ⟨p, 0, none⟩ = some a0 ∧ w'.cell? ⟨p, 1, none⟩ = some a1 ∧ w'.cell? ⟨p, 2, none⟩ = some a2 ∧ w'.cell? ⟨p, 3, none⟩ = some a3 ∧ w'.cell? ⟨p, 4, none⟩ = some a4 ∧ w'.cell? ⟨p, 5, none⟩ = some a5 ∧ w'.cell? ⟨p, 6, none⟩ = some a6 ∧ w'.cell? ⟨q, 0, none⟩ = some b0 ∧ w'.cell? ⟨q, 1, none⟩ = some b1 ∧ w'.cell? ⟨q, 2, none⟩ = some b2 ∧ w'.cell? ⟨q, 3, none⟩ = some b3 ∧ w'.cell? ⟨q, 4, none⟩ = some b4 ∧ w'.cell? ⟨q, 5, none⟩ = some b5 ∧ w'.cell? ⟨q, 6, none⟩ = some b6 ∧ Below W.heap.size W w' := by
  have x := ha.under h ha.lt
  have y := hb.under h hb.lt
  exact ⟨x.cell 0, x.cell 1, x.cell 2, x.cell 3, x.cell 4, x.cell 5, x.cell 6, y.cell 0, y.cell 1, y.cell 2, y.cell 3, y.cell 4, y.cell 5, y.cell 6, h⟩
theorem sub_plain (a b : Ty) (cs cs' : Array Value) (B : Nat) (w : World) (ha : TyC w B a cs) (hb : TyC w B b cs') (hB : B ≤ w.heap.size) (pa : PlainB a = true) (pb : PlainB b = true) (v : Bool) (hv : subF 32 a b = v) :
    Calls Try.prog 13 #[.agg cs, .agg cs'] w fun e w' => e = .returned (.bool v) ∧ Below w.heap.size w w' := by
  subst hv
  have h := Sub_c a b cs cs' B w ha hb hB
  rw [show SubB a b = subF 32 a b by rw [SubB, pa, pb]; simp] at h
  exact h
theorem rsub_plain (a b : Ty) (cs cs' : Array Value) (B : Nat) (w : World) (ha : TyC w B a cs) (hb : TyC w B b cs') (hB : B ≤ w.heap.size) (pa : PlainB a = true) (pb : PlainB b = true) (v : Bool) (hv : subF 32 a b = v) :
    Calls Try.prog 14 #[.agg cs, .agg cs'] w fun e w' => e = .returned (.bool v) ∧ Below w.heap.size w w' :=
  hv ▸   refSub_c 32 a b cs cs' B w ha hb hB (plain_may pa) (plain_may pb) (may_deep (plain_may pa)) (may_deep (plain_may pb))
set_option maxRecDepth 100000 in
set_option maxHeartbeats 4000000 in
theorem tells_c (a b : Ty) (cs cs' : Array Value) (B : Nat) (w : World) (ha : TyC w B a cs) (hb : TyC w B b cs') (hB : B ≤ w.heap.size) :
    Calls Try.prog 3 #[.agg cs, .agg cs'] w fun e w' => e = .returned (.bool true) ∧ Below w.heap.size w w' := by
  obtain ⟨na, nc, sa, sc, f, rfl, -⟩ := ha.inv
  obtain ⟨na', nc', sa', sc', f', rfl, -⟩ := hb.inv
  have HA := Lib.hid ha
  have HB := Lib.hid hb
  clear ha hb
  go_enter Try.func3, Try.ntmps3
  simp only [tyCells]
  go_wp2_with fail
  have h2 := boxes2 w #[.int .i64 a.kind, .string a.pkg, .int .i64 a.major, .string a.mod, .string a.name, .slice na a.names.length nc, .slice sa a.subs.length sc] #[.int .i64 b.kind, .string b.pkg, .int .i64 b.major, .string b.mod, .string b.name, .slice na' b.names.length nc', .slice sa' b.subs.length sc'] 25
  generalize ((w.alloc (.cells #[.int .i64 a.kind, .string a.pkg, .int .i64 a.major, .string a.mod, .string a.name, .slice na a.names.length nc, .slice sa a.subs.length sc] 25)).alloc (.cells #[.int .i64 b.kind, .string b.pkg, .int .i64 b.major, .string b.mod, .string b.name, .slice na' b.names.length nc', .slice sa' b.subs.length sc'] 25)) = W at h2 ⊢
  obtain ⟨x0, x1, xs, xb⟩ := h2
  have hsz := xb.size
  have hA := HA.out.under (xb.mono hB)
  have hB' := HB.out.under (xb.mono hB)
  simp only [tyCells] at hA hB'
  have HA1 := Lib.hid hA
  have HB1 := Lib.hid hB'
  have hBW : B ≤ W.heap.size := Nat.le_trans hB hsz
  have X0 := Lib.hid x0
  have X1 := Lib.hid x1
  have XB := Lib.hid xb
  have B0 := Lib.hid (Below.refl W.heap.size W)
  clear x0 x1 xb hA hB'
  refine (up_c W).mono ?_
  rintro e w1 ⟨rfl, hb⟩
  have B1 := Lib.hid (B0.out.trans (hb.mono B0.out.size))
  have s1 := B1.out.size
  clear hb
  have a0 := (X0.out.under B1.out X0.out.lt).cell 0
  have a1 := (X0.out.under B1.out X0.out.lt).cell 1
  have a2 := (X0.out.under B1.out X0.out.lt).cell 2
  have a3 := (X0.out.under B1.out X0.out.lt).cell 3
  have a4 := (X0.out.under B1.out X0.out.lt).cell 4
  have a5 := (X0.out.under B1.out X0.out.lt).cell 5
  have a6 := (X0.out.under B1.out X0.out.lt).cell 6
  have b0 := (X1.out.under B1.out X1.out.lt).cell 0
  have b1 := (X1.out.under B1.out X1.out.lt).cell 1
  have b2 := (X1.out.under B1.out X1.out.lt).cell 2
  have b3 := (X1.out.under B1.out X1.out.lt).cell 3
  have b4 := (X1.out.under B1.out X1.out.lt).cell 4
  have b5 := (X1.out.under B1.out X1.out.lt).cell 5
  have b6 := (X1.out.under B1.out X1.out.lt).cell 6
  simp at a0 a1 a2 a3 a4 a5 a6 b0 b1 b2 b3 b4 b5 b6
  go_wp2_with fail
  refine (Few_c a _ B w1 (HA1.out.under (B1.out.mono hBW)) (by omega)).mono ?_
  rintro e w2 ⟨rfl, hb⟩
  have B2 := Lib.hid (B1.out.trans (hb.mono B1.out.size))
  have s2 := B2.out.size
  clear hb a0 a1 a2 a3 a4 a5 a6 b0 b1 b2 b3 b4 b5 b6
  have a0 := (X0.out.under B2.out X0.out.lt).cell 0
  have a1 := (X0.out.under B2.out X0.out.lt).cell 1
  have a2 := (X0.out.under B2.out X0.out.lt).cell 2
  have a3 := (X0.out.under B2.out X0.out.lt).cell 3
  have a4 := (X0.out.under B2.out X0.out.lt).cell 4
  have a5 := (X0.out.under B2.out X0.out.lt).cell 5
  have a6 := (X0.out.under B2.out X0.out.lt).cell 6
  have b0 := (X1.out.under B2.out X1.out.lt).cell 0
  have b1 := (X1.out.under B2.out X1.out.lt).cell 1
  have b2 := (X1.out.under B2.out X1.out.lt).cell 2
  have b3 := (X1.out.under B2.out X1.out.lt).cell 3
  have b4 := (X1.out.under B2.out X1.out.lt).cell 4
  have b5 := (X1.out.under B2.out X1.out.lt).cell 5
  have b6 := (X1.out.under B2.out X1.out.lt).cell 6
  simp at a0 a1 a2 a3 a4 a5 a6 b0 b1 b2 b3 b4 b5 b6
  go_wp2_with fail
  refine (Few_c b _ B w2 (HB1.out.under (B2.out.mono hBW)) (by omega)).mono ?_
  rintro e w3 ⟨rfl, hb⟩
  have B3 := Lib.hid (B2.out.trans (hb.mono B2.out.size))
  have s3 := B3.out.size
  clear hb a0 a1 a2 a3 a4 a5 a6 b0 b1 b2 b3 b4 b5 b6
  have a0 := (X0.out.under B3.out X0.out.lt).cell 0
  have a1 := (X0.out.under B3.out X0.out.lt).cell 1
  have a2 := (X0.out.under B3.out X0.out.lt).cell 2
  have a3 := (X0.out.under B3.out X0.out.lt).cell 3
  have a4 := (X0.out.under B3.out X0.out.lt).cell 4
  have a5 := (X0.out.under B3.out X0.out.lt).cell 5
  have a6 := (X0.out.under B3.out X0.out.lt).cell 6
  have b0 := (X1.out.under B3.out X1.out.lt).cell 0
  have b1 := (X1.out.under B3.out X1.out.lt).cell 1
  have b2 := (X1.out.under B3.out X1.out.lt).cell 2
  have b3 := (X1.out.under B3.out X1.out.lt).cell 3
  have b4 := (X1.out.under B3.out X1.out.lt).cell 4
  have b5 := (X1.out.under B3.out X1.out.lt).cell 5
  have b6 := (X1.out.under B3.out X1.out.lt).cell 6
  simp at a0 a1 a2 a3 a4 a5 a6 b0 b1 b2 b3 b4 b5 b6
  cases hfa : FewB a
  · go_wp2_with fail
    go_ret
    exact ⟨rfl, XB.out.trans (B3.out.mono hsz)⟩
  cases hfb : FewB b
  · go_wp2_with fail
    go_ret
    exact ⟨rfl, XB.out.trans (B3.out.mono hsz)⟩
  have FA := Lib.hid hfa
  have FB := Lib.hid hfb
  clear hfa hfb
  go_wp2_with fail
  refine (plain0_c a _ B w3 (HA1.out.under (B3.out.mono hBW)) (by omega)).mono ?_
  rintro e w4 ⟨rfl, hb⟩
  have B4 := Lib.hid (B3.out.trans (hb.mono B3.out.size))
  have s4 := B4.out.size
  clear hb a0 a1 a2 a3 a4 a5 a6 b0 b1 b2 b3 b4 b5 b6
  have a0 := (X0.out.under B4.out X0.out.lt).cell 0
  have a1 := (X0.out.under B4.out X0.out.lt).cell 1
  have a2 := (X0.out.under B4.out X0.out.lt).cell 2
  have a3 := (X0.out.under B4.out X0.out.lt).cell 3
  have a4 := (X0.out.under B4.out X0.out.lt).cell 4
  have a5 := (X0.out.under B4.out X0.out.lt).cell 5
  have a6 := (X0.out.under B4.out X0.out.lt).cell 6
  have b0 := (X1.out.under B4.out X1.out.lt).cell 0
  have b1 := (X1.out.under B4.out X1.out.lt).cell 1
  have b2 := (X1.out.under B4.out X1.out.lt).cell 2
  have b3 := (X1.out.under B4.out X1.out.lt).cell 3
  have b4 := (X1.out.under B4.out X1.out.lt).cell 4
  have b5 := (X1.out.under B4.out X1.out.lt).cell 5
  have b6 := (X1.out.under B4.out X1.out.lt).cell 6
  simp at a0 a1 a2 a3 a4 a5 a6 b0 b1 b2 b3 b4 b5 b6
  go_wp2_with fail
  refine (plain0_c b _ B w4 (HB1.out.under (B4.out.mono hBW)) (by omega)).mono ?_
  rintro e w5 ⟨rfl, hb⟩
  have B5 := Lib.hid (B4.out.trans (hb.mono B4.out.size))
  have s5 := B5.out.size
  clear hb a0 a1 a2 a3 a4 a5 a6 b0 b1 b2 b3 b4 b5 b6
  have a0 := (X0.out.under B5.out X0.out.lt).cell 0
  have a1 := (X0.out.under B5.out X0.out.lt).cell 1
  have a2 := (X0.out.under B5.out X0.out.lt).cell 2
  have a3 := (X0.out.under B5.out X0.out.lt).cell 3
  have a4 := (X0.out.under B5.out X0.out.lt).cell 4
  have a5 := (X0.out.under B5.out X0.out.lt).cell 5
  have a6 := (X0.out.under B5.out X0.out.lt).cell 6
  have b0 := (X1.out.under B5.out X1.out.lt).cell 0
  have b1 := (X1.out.under B5.out X1.out.lt).cell 1
  have b2 := (X1.out.under B5.out X1.out.lt).cell 2
  have b3 := (X1.out.under B5.out X1.out.lt).cell 3
  have b4 := (X1.out.under B5.out X1.out.lt).cell 4
  have b5 := (X1.out.under B5.out X1.out.lt).cell 5
  have b6 := (X1.out.under B5.out X1.out.lt).cell 6
  simp at a0 a1 a2 a3 a4 a5 a6 b0 b1 b2 b3 b4 b5 b6
  cases hpa : (FewB a && PlainB a)
  · have HPA := Lib.hid hpa
    clear hpa
    have h1 : SubB a b = false := sub_few HPA.out FA.out
    have h2 : SubB b a = false := sub_few' HPA.out FA.out
    have H1 := Lib.hid h1
    have H2 := Lib.hid h2
    clear h1 h2
    go_wp2_with fail
    refine (Sub_c a b _ _ B w5 (HA1.out.under (B5.out.mono hBW)) (HB1.out.under (B5.out.mono hBW)) (by omega)).mono ?_
    rintro e w6 ⟨rfl, hb⟩
    have B6 := Lib.hid (B5.out.trans (hb.mono B5.out.size))
    have s6 := B6.out.size
    clear hb a0 a1 a2 a3 a4 a5 a6 b0 b1 b2 b3 b4 b5 b6
    have a0 := (X0.out.under B6.out X0.out.lt).cell 0
    have a1 := (X0.out.under B6.out X0.out.lt).cell 1
    have a2 := (X0.out.under B6.out X0.out.lt).cell 2
    have a3 := (X0.out.under B6.out X0.out.lt).cell 3
    have a4 := (X0.out.under B6.out X0.out.lt).cell 4
    have a5 := (X0.out.under B6.out X0.out.lt).cell 5
    have a6 := (X0.out.under B6.out X0.out.lt).cell 6
    have b0 := (X1.out.under B6.out X1.out.lt).cell 0
    have b1 := (X1.out.under B6.out X1.out.lt).cell 1
    have b2 := (X1.out.under B6.out X1.out.lt).cell 2
    have b3 := (X1.out.under B6.out X1.out.lt).cell 3
    have b4 := (X1.out.under B6.out X1.out.lt).cell 4
    have b5 := (X1.out.under B6.out X1.out.lt).cell 5
    have b6 := (X1.out.under B6.out X1.out.lt).cell 6
    simp at a0 a1 a2 a3 a4 a5 a6 b0 b1 b2 b3 b4 b5 b6
    rw [H1.out]
    go_wp2_with fail
    refine (Sub_c b a _ _ B w6 (HB1.out.under (B6.out.mono hBW)) (HA1.out.under (B6.out.mono hBW)) (by omega)).mono ?_
    rintro e w7 ⟨rfl, hb⟩
    have B7 := Lib.hid (B6.out.trans (hb.mono B6.out.size))
    have s7 := B7.out.size
    clear hb a0 a1 a2 a3 a4 a5 a6 b0 b1 b2 b3 b4 b5 b6
    have a0 := (X0.out.under B7.out X0.out.lt).cell 0
    have a1 := (X0.out.under B7.out X0.out.lt).cell 1
    have a2 := (X0.out.under B7.out X0.out.lt).cell 2
    have a3 := (X0.out.under B7.out X0.out.lt).cell 3
    have a4 := (X0.out.under B7.out X0.out.lt).cell 4
    have a5 := (X0.out.under B7.out X0.out.lt).cell 5
    have a6 := (X0.out.under B7.out X0.out.lt).cell 6
    have b0 := (X1.out.under B7.out X1.out.lt).cell 0
    have b1 := (X1.out.under B7.out X1.out.lt).cell 1
    have b2 := (X1.out.under B7.out X1.out.lt).cell 2
    have b3 := (X1.out.under B7.out X1.out.lt).cell 3
    have b4 := (X1.out.under B7.out X1.out.lt).cell 4
    have b5 := (X1.out.under B7.out X1.out.lt).cell 5
    have b6 := (X1.out.under B7.out X1.out.lt).cell 6
    simp at a0 a1 a2 a3 a4 a5 a6 b0 b1 b2 b3 b4 b5 b6
    rw [H2.out]
    go_wp2_with fail
    go_ret
    exact ⟨rfl, XB.out.trans (B7.out.mono hsz)⟩
  cases hpb : (FewB b && PlainB b)
  · have HPA := Lib.hid hpa
    have HPB := Lib.hid hpb
    clear hpa hpb
    have h1 : SubB a b = false := sub_few' HPB.out FB.out
    have h2 : SubB b a = false := sub_few HPB.out FB.out
    have H1 := Lib.hid h1
    have H2 := Lib.hid h2
    clear h1 h2
    go_wp2_with fail
    refine (Sub_c a b _ _ B w5 (HA1.out.under (B5.out.mono hBW)) (HB1.out.under (B5.out.mono hBW)) (by omega)).mono ?_
    rintro e w6 ⟨rfl, hb⟩
    have B6 := Lib.hid (B5.out.trans (hb.mono B5.out.size))
    have s6 := B6.out.size
    clear hb a0 a1 a2 a3 a4 a5 a6 b0 b1 b2 b3 b4 b5 b6
    have a0 := (X0.out.under B6.out X0.out.lt).cell 0
    have a1 := (X0.out.under B6.out X0.out.lt).cell 1
    have a2 := (X0.out.under B6.out X0.out.lt).cell 2
    have a3 := (X0.out.under B6.out X0.out.lt).cell 3
    have a4 := (X0.out.under B6.out X0.out.lt).cell 4
    have a5 := (X0.out.under B6.out X0.out.lt).cell 5
    have a6 := (X0.out.under B6.out X0.out.lt).cell 6
    have b0 := (X1.out.under B6.out X1.out.lt).cell 0
    have b1 := (X1.out.under B6.out X1.out.lt).cell 1
    have b2 := (X1.out.under B6.out X1.out.lt).cell 2
    have b3 := (X1.out.under B6.out X1.out.lt).cell 3
    have b4 := (X1.out.under B6.out X1.out.lt).cell 4
    have b5 := (X1.out.under B6.out X1.out.lt).cell 5
    have b6 := (X1.out.under B6.out X1.out.lt).cell 6
    simp at a0 a1 a2 a3 a4 a5 a6 b0 b1 b2 b3 b4 b5 b6
    rw [H1.out]
    go_wp2_with fail
    refine (Sub_c b a _ _ B w6 (HB1.out.under (B6.out.mono hBW)) (HA1.out.under (B6.out.mono hBW)) (by omega)).mono ?_
    rintro e w7 ⟨rfl, hb⟩
    have B7 := Lib.hid (B6.out.trans (hb.mono B6.out.size))
    have s7 := B7.out.size
    clear hb a0 a1 a2 a3 a4 a5 a6 b0 b1 b2 b3 b4 b5 b6
    have a0 := (X0.out.under B7.out X0.out.lt).cell 0
    have a1 := (X0.out.under B7.out X0.out.lt).cell 1
    have a2 := (X0.out.under B7.out X0.out.lt).cell 2
    have a3 := (X0.out.under B7.out X0.out.lt).cell 3
    have a4 := (X0.out.under B7.out X0.out.lt).cell 4
    have a5 := (X0.out.under B7.out X0.out.lt).cell 5
    have a6 := (X0.out.under B7.out X0.out.lt).cell 6
    have b0 := (X1.out.under B7.out X1.out.lt).cell 0
    have b1 := (X1.out.under B7.out X1.out.lt).cell 1
    have b2 := (X1.out.under B7.out X1.out.lt).cell 2
    have b3 := (X1.out.under B7.out X1.out.lt).cell 3
    have b4 := (X1.out.under B7.out X1.out.lt).cell 4
    have b5 := (X1.out.under B7.out X1.out.lt).cell 5
    have b6 := (X1.out.under B7.out X1.out.lt).cell 6
    simp at a0 a1 a2 a3 a4 a5 a6 b0 b1 b2 b3 b4 b5 b6
    rw [H2.out]
    go_wp2_with fail
    go_ret
    exact ⟨rfl, XB.out.trans (B7.out.mono hsz)⟩
  have PA := Lib.hid (show PlainB a = true by rw [FA.out, Bool.true_and] at hpa; exact hpa)
  have PB := Lib.hid (show PlainB b = true by rw [FB.out, Bool.true_and] at hpb; exact hpb)
  clear hpa hpb
  go_wp2_with fail
  obtain ⟨vab, hvab⟩ : ∃ v, subF 32 a b = v := ⟨_, rfl⟩
  obtain ⟨vba, hvba⟩ : ∃ v, subF 32 b a = v := ⟨_, rfl⟩
  have VAB := Lib.hid hvab
  have VBA := Lib.hid hvba
  clear hvab hvba
  cases vab <;> cases vba
  all_goals
    have dn : Below W.heap.size W w5.drew := B5.out.drew
    clear a0 b0 a1 b1 a2 b2 a3 b3 a4 b4 a5 b5 a6 b6
    go_region_held3 (fun w' => w'.cell? ⟨w.heap.size, 0, none⟩ = some (.int .i64 a.kind) ∧ w'.cell? ⟨w.heap.size, 1, none⟩ = some (.string a.pkg) ∧ w'.cell? ⟨w.heap.size, 2, none⟩ = some (.int .i64 a.major) ∧ w'.cell? ⟨w.heap.size, 3, none⟩ = some (.string a.mod) ∧ w'.cell? ⟨w.heap.size, 4, none⟩ = some (.string a.name) ∧ w'.cell? ⟨w.heap.size, 5, none⟩ = some (.slice na a.names.length nc) ∧ w'.cell? ⟨w.heap.size, 6, none⟩ = some (.slice sa a.subs.length sc) ∧ w'.cell? ⟨w.heap.size + 1, 0, none⟩ = some (.int .i64 b.kind) ∧ w'.cell? ⟨w.heap.size + 1, 1, none⟩ = some (.string b.pkg) ∧ w'.cell? ⟨w.heap.size + 1, 2, none⟩ = some (.int .i64 b.major) ∧ w'.cell? ⟨w.heap.size + 1, 3, none⟩ = some (.string b.mod) ∧ w'.cell? ⟨w.heap.size + 1, 4, none⟩ = some (.string b.name) ∧ w'.cell? ⟨w.heap.size + 1, 5, none⟩ = some (.slice na' b.names.length nc') ∧ w'.cell? ⟨w.heap.size + 1, 6, none⟩ = some (.slice sa' b.subs.length sc') ∧ Below W.heap.size W w')
      (exact cells2 X0.out X1.out dn)
      (first
        | (have h0 := stAB; go_at_call 13; refine (sub_plain b a _ _ B _ (HB1.out.under (dn.mono hBW)) (HA1.out.under (dn.mono hBW)) (by have := dn.size; omega) PB.out PA.out _ VBA.out).mono ?_; rintro e wn ⟨rfl, hb⟩; have dn : Below W.heap.size W wn := dn.trans (hb.mono dn.size))
        | (have h0 := stAB; go_at_call 14; refine (rsub_plain b a _ _ B _ (HB1.out.under (dn.mono hBW)) (HA1.out.under (dn.mono hBW)) (by have := dn.size; omega) PB.out PA.out _ VBA.out).mono ?_; rintro e wn ⟨rfl, hb⟩; have dn : Below W.heap.size W wn := dn.trans (hb.mono dn.size))
        | (go_at_call 13; refine (sub_plain a b _ _ B _ (HA1.out.under (dn.mono hBW)) (HB1.out.under (dn.mono hBW)) (by have := dn.size; omega) PA.out PB.out _ VAB.out).mono ?_; rintro e wn ⟨rfl, hb⟩; have dn : Below W.heap.size W wn := dn.trans (hb.mono dn.size))
        | (go_at_call 14; refine (rsub_plain a b _ _ B _ (HA1.out.under (dn.mono hBW)) (HB1.out.under (dn.mono hBW)) (by have := dn.size; omega) PA.out PB.out _ VAB.out).mono ?_; rintro e wn ⟨rfl, hb⟩; have dn : Below W.heap.size W wn := dn.trans (hb.mono dn.size); have stAB : True := trivial))
    all_goals
      go_wp2
      go_ret
      exact ⟨rfl, XB.out.trans (dn.mono hsz)⟩
end Go.Proofs.Ytalpmjmifcofeaa
