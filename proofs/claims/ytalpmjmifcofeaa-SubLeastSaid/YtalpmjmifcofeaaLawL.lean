/- merlonlaw09.SubLeast returns true. -/
import Derived.Test.YtalpmjmifcofeaaUp
import Derived.Test.YtalpmjmifcofeaaSubP
import Derived.Test.YtalpmjmifcofeaaRefSame
import Derived.Test.YtalpmjmifcofeaaWholeN
import Derived.Test.YtalpmjmifcofeaaLub2
import Derived.Deep.DeepCutAuto
import Derived.Deep.Cut
namespace Go.Proofs.Ytalpmjmifcofeaa
open Go.RowKit
set_option linter.unusedSimpArgs false
set_option linter.unusedVariables false
theorem plain_plain {t : Ty} (h : PlainB t = true) : plainT t = true := by
  rw [PlainB, Bool.and_eq_true] at h; exact h.2
theorem plain_oks {t : Ty} (h : PlainB t = true) : Oks 32 t := ⟨plain_may h, may_deep (plain_may h)⟩
theorem whole_comm (up : Bool) (a b : Ty) (pa : PlainB a = true) (pb : PlainB b = true) : wholeF up a b = wholeF up b a := by
  unfold wholeF
  rw [pa, pb, bnd_comm 32 up a b (plain_oks pa) (plain_oks pb)]
theorem whole_some {up : Bool} {a b x : Ty} (h : wholeF up a b = some x) : bndF 32 up a b = some x ∧ mayT x = true := by
  unfold wholeF at h
  split at h
  · cases hb : bndF 32 up a b with
    | none => rw [hb] at h; cases h
    | some t =>
      rw [hb] at h
      dsimp only at h
      split at h
      · rename_i hm
        cases h
        exact ⟨rfl, hm⟩
      · cases h
  · cases h
theorem some_get {R : Option Ty} {X : Ty} (h : R.isSome = true) (hx : getT R = X) : R = some X := by
  cases R with
  | none => cases h
  | some x => rw [← hx]; rfl
theorem whole_laws (up : Bool) (a b c : Ty) (R : Option Ty) (pa : PlainB a = true) (pb : PlainB b = true) (pc : PlainB c = true) (hR : wholeF up a b = R) : ∀ X, R = some X →
    PlainB X = true ∧ leF 32 up a X = true ∧ leF 32 up b X = true ∧ (leF 32 up a c = true → leF 32 up b c = true → leF 32 up X c = true) := by
  intro X hX
  rw [hX] at hR
  obtain ⟨h1, h2⟩ := whole_some hR
  obtain ⟨h3, h4⟩ := bnd_le 32 up a b X (plain_oks pa) (plain_oks pb) h1
  refine ⟨?_, h3, h4, fun ha hb => ?_⟩
  · rw [PlainB, h2, bnd_plain 32 up a b X (plain_oks pa) (plain_oks pb) (plain_plain pa) (plain_plain pb) h1]
    rfl
  · obtain ⟨x, hx, hl⟩ := bnd_least 32 up a b c (plain_oks pa) (plain_oks pb) (plain_oks pc) ha hb
    rw [h1] at hx
    rw [Option.some.inj hx]
    exact hl
theorem whole_le (a b : Ty) (R S : Option Ty) (pa : PlainB a = true) (pb : PlainB b = true) (hR : wholeF true a b = R) (hS : wholeF false a b = S) : subF 32 a b = true → R = some b ∧ S = some a := by
  intro h
  have h1 := bnd_of_le 32 true a b (plain_oks pa) (plain_oks pb) h
  have h2 := bnd_of_le 32 false b a (plain_oks pb) (plain_oks pa) h
  rw [bnd_comm 32 false b a (plain_oks pb) (plain_oks pa)] at h2
  refine ⟨?_, ?_⟩
  · rw [← hR, wholeF, pa, pb, h1]
    simp [plain_may pb]
  · rw [← hS, wholeF, pa, pb, h2]
    simp [plain_may pa]
set_option maxRecDepth 100000 in
set_option maxHeartbeats 8000000 in
theorem least_c (a b c : Ty) (cs cs' cs3 : Array Value) (B : Nat) (w : World) (ha : TyC w B a cs) (hb : TyC w B b cs') (hc : TyC w B c cs3) (hB : B ≤ w.heap.size) :
    Calls Try.prog 5 #[.agg cs, .agg cs', .agg cs3] w fun e w' => e = .returned (.bool true) ∧ Below w.heap.size w w' := by
  obtain ⟨na, nc, sa, sc, f, rfl, -⟩ := ha.inv
  obtain ⟨na', nc', sa', sc', f', rfl, -⟩ := hb.inv
  obtain ⟨na3, nc3, sa3, sc3, f3, rfl, -⟩ := hc.inv
  have HA := Lib.hid ha
  have HB := Lib.hid hb
  have HC := Lib.hid hc
  clear ha hb hc
  go_enter Try.func5, Try.ntmps5
  simp only [tyCells]
  go_wp2_with fail
  have h3 := boxes3 w #[.int .i64 a.kind, .string a.pkg, .int .i64 a.major, .string a.mod, .string a.name, .slice na a.names.length nc, .slice sa a.subs.length sc] #[.int .i64 b.kind, .string b.pkg, .int .i64 b.major, .string b.mod, .string b.name, .slice na' b.names.length nc', .slice sa' b.subs.length sc'] #[.int .i64 c.kind, .string c.pkg, .int .i64 c.major, .string c.mod, .string c.name, .slice na3 c.names.length nc3, .slice sa3 c.subs.length sc3] 25
  generalize (((w.alloc (.cells #[.int .i64 a.kind, .string a.pkg, .int .i64 a.major, .string a.mod, .string a.name, .slice na a.names.length nc, .slice sa a.subs.length sc] 25)).alloc (.cells #[.int .i64 b.kind, .string b.pkg, .int .i64 b.major, .string b.mod, .string b.name, .slice na' b.names.length nc', .slice sa' b.subs.length sc'] 25)).alloc (.cells #[.int .i64 c.kind, .string c.pkg, .int .i64 c.major, .string c.mod, .string c.name, .slice na3 c.names.length nc3, .slice sa3 c.subs.length sc3] 25)) = W at h3 ⊢
  obtain ⟨x0, x1, x2, xs, xb⟩ := h3
  have hsz := xb.size
  have hA := HA.out.under (xb.mono hB)
  have hB' := HB.out.under (xb.mono hB)
  have hC := HC.out.under (xb.mono hB)
  simp only [tyCells] at hA hB' hC
  have HA1 := Lib.hid hA
  have HB1 := Lib.hid hB'
  have HC1 := Lib.hid hC
  have hBW : B ≤ W.heap.size := Nat.le_trans hB hsz
  have X0 := Lib.hid x0
  have X1 := Lib.hid x1
  have X2 := Lib.hid x2
  have XB := Lib.hid xb
  have B0 := Lib.hid (Below.refl W.heap.size W)
  clear x0 x1 x2 xb hA hB' hC
  refine (up_c W).mono ?_
  rintro e w1 ⟨rfl, hb⟩
  have B1 := Lib.hid (B0.out.trans (hb.mono B0.out.size))
  have s1 := B1.out.size
  clear hb
  have p0 := (X0.out.under B1.out X0.out.lt).cell 0
  have p1 := (X0.out.under B1.out X0.out.lt).cell 1
  have p2 := (X0.out.under B1.out X0.out.lt).cell 2
  have p3 := (X0.out.under B1.out X0.out.lt).cell 3
  have p4 := (X0.out.under B1.out X0.out.lt).cell 4
  have p5 := (X0.out.under B1.out X0.out.lt).cell 5
  have p6 := (X0.out.under B1.out X0.out.lt).cell 6
  have q0 := (X1.out.under B1.out X1.out.lt).cell 0
  have q1 := (X1.out.under B1.out X1.out.lt).cell 1
  have q2 := (X1.out.under B1.out X1.out.lt).cell 2
  have q3 := (X1.out.under B1.out X1.out.lt).cell 3
  have q4 := (X1.out.under B1.out X1.out.lt).cell 4
  have q5 := (X1.out.under B1.out X1.out.lt).cell 5
  have q6 := (X1.out.under B1.out X1.out.lt).cell 6
  have r0 := (X2.out.under B1.out X2.out.lt).cell 0
  have r1 := (X2.out.under B1.out X2.out.lt).cell 1
  have r2 := (X2.out.under B1.out X2.out.lt).cell 2
  have r3 := (X2.out.under B1.out X2.out.lt).cell 3
  have r4 := (X2.out.under B1.out X2.out.lt).cell 4
  have r5 := (X2.out.under B1.out X2.out.lt).cell 5
  have r6 := (X2.out.under B1.out X2.out.lt).cell 6
  simp at p0 p1 p2 p3 p4 p5 p6 q0 q1 q2 q3 q4 q5 q6 r0 r1 r2 r3 r4 r5 r6
  go_wp2_with fail
  refine (plain0_c a _ B w1 (HA1.out.under (B1.out.mono hBW)) (by omega)).mono ?_
  rintro e w2 ⟨rfl, hb⟩
  have B2 := Lib.hid (B1.out.trans (hb.mono B1.out.size))
  have s2 := B2.out.size
  clear hb p0 p1 p2 p3 p4 p5 p6 q0 q1 q2 q3 q4 q5 q6 r0 r1 r2 r3 r4 r5 r6
  have p0 := (X0.out.under B2.out X0.out.lt).cell 0
  have p1 := (X0.out.under B2.out X0.out.lt).cell 1
  have p2 := (X0.out.under B2.out X0.out.lt).cell 2
  have p3 := (X0.out.under B2.out X0.out.lt).cell 3
  have p4 := (X0.out.under B2.out X0.out.lt).cell 4
  have p5 := (X0.out.under B2.out X0.out.lt).cell 5
  have p6 := (X0.out.under B2.out X0.out.lt).cell 6
  have q0 := (X1.out.under B2.out X1.out.lt).cell 0
  have q1 := (X1.out.under B2.out X1.out.lt).cell 1
  have q2 := (X1.out.under B2.out X1.out.lt).cell 2
  have q3 := (X1.out.under B2.out X1.out.lt).cell 3
  have q4 := (X1.out.under B2.out X1.out.lt).cell 4
  have q5 := (X1.out.under B2.out X1.out.lt).cell 5
  have q6 := (X1.out.under B2.out X1.out.lt).cell 6
  have r0 := (X2.out.under B2.out X2.out.lt).cell 0
  have r1 := (X2.out.under B2.out X2.out.lt).cell 1
  have r2 := (X2.out.under B2.out X2.out.lt).cell 2
  have r3 := (X2.out.under B2.out X2.out.lt).cell 3
  have r4 := (X2.out.under B2.out X2.out.lt).cell 4
  have r5 := (X2.out.under B2.out X2.out.lt).cell 5
  have r6 := (X2.out.under B2.out X2.out.lt).cell 6
  simp at p0 p1 p2 p3 p4 p5 p6 q0 q1 q2 q3 q4 q5 q6 r0 r1 r2 r3 r4 r5 r6
  go_wp2_with fail
  refine (plain0_c b _ B w2 (HB1.out.under (B2.out.mono hBW)) (by omega)).mono ?_
  rintro e w3 ⟨rfl, hb⟩
  have B3 := Lib.hid (B2.out.trans (hb.mono B2.out.size))
  have s3 := B3.out.size
  clear hb p0 p1 p2 p3 p4 p5 p6 q0 q1 q2 q3 q4 q5 q6 r0 r1 r2 r3 r4 r5 r6
  have p0 := (X0.out.under B3.out X0.out.lt).cell 0
  have p1 := (X0.out.under B3.out X0.out.lt).cell 1
  have p2 := (X0.out.under B3.out X0.out.lt).cell 2
  have p3 := (X0.out.under B3.out X0.out.lt).cell 3
  have p4 := (X0.out.under B3.out X0.out.lt).cell 4
  have p5 := (X0.out.under B3.out X0.out.lt).cell 5
  have p6 := (X0.out.under B3.out X0.out.lt).cell 6
  have q0 := (X1.out.under B3.out X1.out.lt).cell 0
  have q1 := (X1.out.under B3.out X1.out.lt).cell 1
  have q2 := (X1.out.under B3.out X1.out.lt).cell 2
  have q3 := (X1.out.under B3.out X1.out.lt).cell 3
  have q4 := (X1.out.under B3.out X1.out.lt).cell 4
  have q5 := (X1.out.under B3.out X1.out.lt).cell 5
  have q6 := (X1.out.under B3.out X1.out.lt).cell 6
  have r0 := (X2.out.under B3.out X2.out.lt).cell 0
  have r1 := (X2.out.under B3.out X2.out.lt).cell 1
  have r2 := (X2.out.under B3.out X2.out.lt).cell 2
  have r3 := (X2.out.under B3.out X2.out.lt).cell 3
  have r4 := (X2.out.under B3.out X2.out.lt).cell 4
  have r5 := (X2.out.under B3.out X2.out.lt).cell 5
  have r6 := (X2.out.under B3.out X2.out.lt).cell 6
  simp at p0 p1 p2 p3 p4 p5 p6 q0 q1 q2 q3 q4 q5 q6 r0 r1 r2 r3 r4 r5 r6
  go_wp2_with fail
  refine (plain0_c c _ B w3 (HC1.out.under (B3.out.mono hBW)) (by omega)).mono ?_
  rintro e w4 ⟨rfl, hb⟩
  have B4 := Lib.hid (B3.out.trans (hb.mono B3.out.size))
  have s4 := B4.out.size
  clear hb p0 p1 p2 p3 p4 p5 p6 q0 q1 q2 q3 q4 q5 q6 r0 r1 r2 r3 r4 r5 r6
  have p0 := (X0.out.under B4.out X0.out.lt).cell 0
  have p1 := (X0.out.under B4.out X0.out.lt).cell 1
  have p2 := (X0.out.under B4.out X0.out.lt).cell 2
  have p3 := (X0.out.under B4.out X0.out.lt).cell 3
  have p4 := (X0.out.under B4.out X0.out.lt).cell 4
  have p5 := (X0.out.under B4.out X0.out.lt).cell 5
  have p6 := (X0.out.under B4.out X0.out.lt).cell 6
  have q0 := (X1.out.under B4.out X1.out.lt).cell 0
  have q1 := (X1.out.under B4.out X1.out.lt).cell 1
  have q2 := (X1.out.under B4.out X1.out.lt).cell 2
  have q3 := (X1.out.under B4.out X1.out.lt).cell 3
  have q4 := (X1.out.under B4.out X1.out.lt).cell 4
  have q5 := (X1.out.under B4.out X1.out.lt).cell 5
  have q6 := (X1.out.under B4.out X1.out.lt).cell 6
  have r0 := (X2.out.under B4.out X2.out.lt).cell 0
  have r1 := (X2.out.under B4.out X2.out.lt).cell 1
  have r2 := (X2.out.under B4.out X2.out.lt).cell 2
  have r3 := (X2.out.under B4.out X2.out.lt).cell 3
  have r4 := (X2.out.under B4.out X2.out.lt).cell 4
  have r5 := (X2.out.under B4.out X2.out.lt).cell 5
  have r6 := (X2.out.under B4.out X2.out.lt).cell 6
  simp at p0 p1 p2 p3 p4 p5 p6 q0 q1 q2 q3 q4 q5 q6 r0 r1 r2 r3 r4 r5 r6
  cases ha : (FewB a && PlainB a)
  · go_wp2_with fail
    go_ret
    exact ⟨rfl, XB.out.trans (B4.out.mono hsz)⟩
  cases hb : (FewB b && PlainB b)
  · go_wp2_with fail
    go_ret
    exact ⟨rfl, XB.out.trans (B4.out.mono hsz)⟩
  cases hc : (FewB c && PlainB c)
  · go_wp2_with fail
    go_ret
    exact ⟨rfl, XB.out.trans (B4.out.mono hsz)⟩
  have V0 := Lib.hid (Below.refl w4.heap.size w4)
  have HBW := Lib.hid (XB.out.trans (B4.out.mono hsz))
  have BA := Lib.hid (X0.out.under B4.out X0.out.lt)
  have TA := Lib.hid ((HA1.out.under (B4.out.mono hBW)).mono (show B ≤ w4.heap.size by omega))
  have BB := Lib.hid (X1.out.under B4.out X1.out.lt)
  have TB := Lib.hid ((HB1.out.under (B4.out.mono hBW)).mono (show B ≤ w4.heap.size by omega))
  have BC := Lib.hid (X2.out.under B4.out X2.out.lt)
  have TC := Lib.hid ((HC1.out.under (B4.out.mono hBW)).mono (show B ≤ w4.heap.size by omega))
  clear X0 X1 X2 HA1 HB1 HC1 HA HB HC XB B1 B2 B3 B4 B0 s1 s2 s3 s4 xs p0 p1 p2 p3 p4 p5 p6 q0 q1 q2 q3 q4 q5 q6 r0 r1 r2 r3 r4 r5 r6 hsz hBW
  have kA := BA.out.under V0.out BA.out.lt
  have ax0 := kA.cell 0
  have ax1 := kA.cell 1
  have ax2 := kA.cell 2
  have ax3 := kA.cell 3
  have ax4 := kA.cell 4
  have ax5 := kA.cell 5
  have ax6 := kA.cell 6
  have kB := BB.out.under V0.out BB.out.lt
  have bx0 := kB.cell 0
  have bx1 := kB.cell 1
  have bx2 := kB.cell 2
  have bx3 := kB.cell 3
  have bx4 := kB.cell 4
  have bx5 := kB.cell 5
  have bx6 := kB.cell 6
  have kC := BC.out.under V0.out BC.out.lt
  have cx0 := kC.cell 0
  have cx1 := kC.cell 1
  have cx2 := kC.cell 2
  have cx3 := kC.cell 3
  have cx4 := kC.cell 4
  have cx5 := kC.cell 5
  have cx6 := kC.cell 6
  simp at ax0 ax1 ax2 ax3 ax4 ax5 ax6 bx0 bx1 bx2 bx3 bx4 bx5 bx6 cx0 cx1 cx2 cx3 cx4 cx5 cx6
  have lA := kA.lt
  have lB := kB.lt
  have lC := kC.lt
  clear kA kB kC
  have Pa := Lib.hid (show PlainB a = true by rw [Bool.and_eq_true] at ha; exact ha.2)
  have Pb := Lib.hid (show PlainB b = true by rw [Bool.and_eq_true] at hb; exact hb.2)
  have Pc := Lib.hid (show PlainB c = true by rw [Bool.and_eq_true] at hc; exact hc.2)
  clear ha hb hc
  obtain ⟨R, hR⟩ : ∃ R, wholeF true a b = R := ⟨_, rfl⟩
  obtain ⟨S, hS⟩ : ∃ S, wholeF false a b = S := ⟨_, rfl⟩
  have HR := Lib.hid hR
  have HRc := Lib.hid (show wholeF true b a = R by rw [← whole_comm true a b Pa.out Pb.out]; exact hR)
  have HS := Lib.hid hS
  obtain ⟨X, hX⟩ : ∃ X, getT R = X := ⟨_, rfl⟩
  obtain ⟨Y, hY⟩ : ∃ Y, getT S = Y := ⟨_, rfl⟩
  obtain ⟨is, hi⟩ : ∃ v, R.isSome = v := ⟨_, rfl⟩
  obtain ⟨was, hwas⟩ : ∃ v, S.isSome = v := ⟨_, rfl⟩
  have LR := Lib.hid (whole_laws true a b c R Pa.out Pb.out Pc.out hR)
  have LS := Lib.hid (whole_laws false a b c S Pa.out Pb.out Pc.out hS)
  have LT := Lib.hid (whole_le a b R S Pa.out Pb.out hR hS)
  have HX := Lib.hid hX
  have HY := Lib.hid hY
  have HI := Lib.hid hi
  have HW := Lib.hid hwas
  obtain ⟨v1, h1⟩ : ∃ v, subF 32 a c = v := ⟨_, rfl⟩
  obtain ⟨v2, h2⟩ : ∃ v, subF 32 b c = v := ⟨_, rfl⟩
  obtain ⟨v3, h3⟩ : ∃ v, subF 32 c a = v := ⟨_, rfl⟩
  obtain ⟨v4, h4⟩ : ∃ v, subF 32 c b = v := ⟨_, rfl⟩
  obtain ⟨v5, h5⟩ : ∃ v, subF 32 a b = v := ⟨_, rfl⟩
  have V1 := Lib.hid h1
  have V2 := Lib.hid h2
  have V3 := Lib.hid h3
  have V4 := Lib.hid h4
  have V5 := Lib.hid h5
  clear h1 h2 h3 h4 h5 hX hY hi hwas hR hS
  go_wp2_with fail
  refine ((show Calls Try.prog 16 _ w4 _ from by have h := Join_c a b _ _ w4.heap.size w4 (TA.out.under V0.out) (TB.out.under V0.out) V0.out.size; rw [HR.out, HX.out, HI.out] at h; exact h)).mono ?_
  rintro e w5 ⟨⟨cr, rfl, htm⟩, hb⟩
  obtain ⟨na5, nc5, sa5, sc5, fz, rfl, -⟩ := htm.inv
  clear ax0 ax1 ax2 ax3 ax4 ax5 ax6 bx0 bx1 bx2 bx3 bx4 bx5 bx6 cx0 cx1 cx2 cx3 cx4 cx5 cx6 lA lB lC
  have HTM := Lib.hid htm
  have AC := Lib.hid (V0.out.trans (hb.mono V0.out.size))
  clear hb
  clear htm
  have kA := BA.out.under AC.out BA.out.lt
  have ax0 := kA.cell 0
  have ax1 := kA.cell 1
  have ax2 := kA.cell 2
  have ax3 := kA.cell 3
  have ax4 := kA.cell 4
  have ax5 := kA.cell 5
  have ax6 := kA.cell 6
  have kB := BB.out.under AC.out BB.out.lt
  have bx0 := kB.cell 0
  have bx1 := kB.cell 1
  have bx2 := kB.cell 2
  have bx3 := kB.cell 3
  have bx4 := kB.cell 4
  have bx5 := kB.cell 5
  have bx6 := kB.cell 6
  have kC := BC.out.under AC.out BC.out.lt
  have cx0 := kC.cell 0
  have cx1 := kC.cell 1
  have cx2 := kC.cell 2
  have cx3 := kC.cell 3
  have cx4 := kC.cell 4
  have cx5 := kC.cell 5
  have cx6 := kC.cell 6
  simp at ax0 ax1 ax2 ax3 ax4 ax5 ax6 bx0 bx1 bx2 bx3 bx4 bx5 bx6 cx0 cx1 cx2 cx3 cx4 cx5 cx6
  have lA := kA.lt
  have lB := kB.lt
  have lC := kC.lt
  clear kA kB kC
  simp only [tyCells]
  go_upto_region 8 with fail
  clear ax0 ax1 ax2 ax3 ax4 ax5 ax6 bx0 bx1 bx2 bx3 bx4 bx5 bx6 cx0 cx1 cx2 cx3 cx4 cx5 cx6 lA lB lC
  have hsz := AC.out.size
  have hbw2 : Below w.heap.size w (w5.alloc (.cells #[.int .i64 X.kind, .string X.pkg, .int .i64 X.major, .string X.mod, .string X.name, .slice na5 X.names.length nc5, .slice sa5 X.subs.length sc5] 25)) := (acc0 HBW.out HBW.out.size AC.out).alloc (by have := HBW.out.size; omega) _
  have nbA := (BA.out.under AC.out BA.out.lt).alloc (.cells #[.int .i64 X.kind, .string X.pkg, .int .i64 X.major, .string X.mod, .string X.name, .slice na5 X.names.length nc5, .slice sa5 X.subs.length sc5] 25)
  have ntA := ((TA.out.under AC.out).alloc hsz (.cells #[.int .i64 X.kind, .string X.pkg, .int .i64 X.major, .string X.mod, .string X.name, .slice na5 X.names.length nc5, .slice sa5 X.subs.length sc5] 25)).mono (show w4.heap.size ≤ (w5.alloc (.cells #[.int .i64 X.kind, .string X.pkg, .int .i64 X.major, .string X.mod, .string X.name, .slice na5 X.names.length nc5, .slice sa5 X.subs.length sc5] 25)).heap.size by simp; omega)
  have nbB := (BB.out.under AC.out BB.out.lt).alloc (.cells #[.int .i64 X.kind, .string X.pkg, .int .i64 X.major, .string X.mod, .string X.name, .slice na5 X.names.length nc5, .slice sa5 X.subs.length sc5] 25)
  have ntB := ((TB.out.under AC.out).alloc hsz (.cells #[.int .i64 X.kind, .string X.pkg, .int .i64 X.major, .string X.mod, .string X.name, .slice na5 X.names.length nc5, .slice sa5 X.subs.length sc5] 25)).mono (show w4.heap.size ≤ (w5.alloc (.cells #[.int .i64 X.kind, .string X.pkg, .int .i64 X.major, .string X.mod, .string X.name, .slice na5 X.names.length nc5, .slice sa5 X.subs.length sc5] 25)).heap.size by simp; omega)
  have nbC := (BC.out.under AC.out BC.out.lt).alloc (.cells #[.int .i64 X.kind, .string X.pkg, .int .i64 X.major, .string X.mod, .string X.name, .slice na5 X.names.length nc5, .slice sa5 X.subs.length sc5] 25)
  have ntC := ((TC.out.under AC.out).alloc hsz (.cells #[.int .i64 X.kind, .string X.pkg, .int .i64 X.major, .string X.mod, .string X.name, .slice na5 X.names.length nc5, .slice sa5 X.subs.length sc5] 25)).mono (show w4.heap.size ≤ (w5.alloc (.cells #[.int .i64 X.kind, .string X.pkg, .int .i64 X.major, .string X.mod, .string X.name, .slice na5 X.names.length nc5, .slice sa5 X.subs.length sc5] 25)).heap.size by simp; omega)
  have nbX := Blk.new w5 #[.int .i64 X.kind, .string X.pkg, .int .i64 X.major, .string X.mod, .string X.name, .slice na5 X.names.length nc5, .slice sa5 X.subs.length sc5] 25
  have ntX := ((HTM.out.mono fun b hb => hb.2).toC.alloc (Nat.le_refl _) (.cells #[.int .i64 X.kind, .string X.pkg, .int .i64 X.major, .string X.mod, .string X.name, .slice na5 X.names.length nc5, .slice sa5 X.subs.length sc5] 25)).mono (show w5.heap.size ≤ (w5.alloc (.cells #[.int .i64 X.kind, .string X.pkg, .int .i64 X.major, .string X.mod, .string X.name, .slice na5 X.names.length nc5, .slice sa5 X.subs.length sc5] 25)).heap.size by simp)
  simp only [tyCells] at ntX
  generalize hxb : w5.heap.size = blkX at nbX ⊢
  generalize (w5.alloc (.cells #[.int .i64 X.kind, .string X.pkg, .int .i64 X.major, .string X.mod, .string X.name, .slice na5 X.names.length nc5, .slice sa5 X.subs.length sc5] 25)) = V2w at hbw2 nbA nbB nbC nbX ntA ntB ntC ntX ⊢
  clear hxb hsz HTM AC HBW BA TA BB TB BC TC
  have HBW := Lib.hid hbw2
  have BA := Lib.hid nbA
  have TA := Lib.hid ntA
  have BB := Lib.hid nbB
  have TB := Lib.hid ntB
  have BC := Lib.hid nbC
  have TC := Lib.hid ntC
  have BX := Lib.hid nbX
  have TX := Lib.hid ntX
  clear hbw2 nbA ntA nbB ntB nbC ntC nbX ntX
  have V0 := Lib.hid (Below.refl V2w.heap.size V2w)
  have kA := BA.out.under V0.out BA.out.lt
  have ax0 := kA.cell 0
  have ax1 := kA.cell 1
  have ax2 := kA.cell 2
  have ax3 := kA.cell 3
  have ax4 := kA.cell 4
  have ax5 := kA.cell 5
  have ax6 := kA.cell 6
  have kB := BB.out.under V0.out BB.out.lt
  have bx0 := kB.cell 0
  have bx1 := kB.cell 1
  have bx2 := kB.cell 2
  have bx3 := kB.cell 3
  have bx4 := kB.cell 4
  have bx5 := kB.cell 5
  have bx6 := kB.cell 6
  have kC := BC.out.under V0.out BC.out.lt
  have cx0 := kC.cell 0
  have cx1 := kC.cell 1
  have cx2 := kC.cell 2
  have cx3 := kC.cell 3
  have cx4 := kC.cell 4
  have cx5 := kC.cell 5
  have cx6 := kC.cell 6
  have kX := BX.out.under V0.out BX.out.lt
  have xx0 := kX.cell 0
  have xx1 := kX.cell 1
  have xx2 := kX.cell 2
  have xx3 := kX.cell 3
  have xx4 := kX.cell 4
  have xx5 := kX.cell 5
  have xx6 := kX.cell 6
  simp at ax0 ax1 ax2 ax3 ax4 ax5 ax6 bx0 bx1 bx2 bx3 bx4 bx5 bx6 cx0 cx1 cx2 cx3 cx4 cx5 cx6 xx0 xx1 xx2 xx3 xx4 xx5 xx6
  have lA := kA.lt
  have lB := kB.lt
  have lC := kC.lt
  have lX := kX.lt
  clear kA kB kC kX
  go_wp2_with fail
  refine ((show Calls Try.prog 16 _ V2w _ from by have h := Join_c b a _ _ V2w.heap.size V2w (TB.out.under V0.out) (TA.out.under V0.out) V0.out.size; rw [HRc.out, HX.out, HI.out] at h; exact h)).mono ?_
  rintro e w6 ⟨⟨cr, rfl, htm⟩, hb⟩
  obtain ⟨na6, nc6, sa6, sc6, fz, rfl, -⟩ := htm.inv
  clear ax0 ax1 ax2 ax3 ax4 ax5 ax6 bx0 bx1 bx2 bx3 bx4 bx5 bx6 cx0 cx1 cx2 cx3 cx4 cx5 cx6 xx0 xx1 xx2 xx3 xx4 xx5 xx6 lA lB lC lX
  have HTM := Lib.hid htm
  have AC := Lib.hid (V0.out.trans (hb.mono V0.out.size))
  clear hb
  clear htm
  have kA := BA.out.under AC.out BA.out.lt
  have ax0 := kA.cell 0
  have ax1 := kA.cell 1
  have ax2 := kA.cell 2
  have ax3 := kA.cell 3
  have ax4 := kA.cell 4
  have ax5 := kA.cell 5
  have ax6 := kA.cell 6
  have kB := BB.out.under AC.out BB.out.lt
  have bx0 := kB.cell 0
  have bx1 := kB.cell 1
  have bx2 := kB.cell 2
  have bx3 := kB.cell 3
  have bx4 := kB.cell 4
  have bx5 := kB.cell 5
  have bx6 := kB.cell 6
  have kC := BC.out.under AC.out BC.out.lt
  have cx0 := kC.cell 0
  have cx1 := kC.cell 1
  have cx2 := kC.cell 2
  have cx3 := kC.cell 3
  have cx4 := kC.cell 4
  have cx5 := kC.cell 5
  have cx6 := kC.cell 6
  have kX := BX.out.under AC.out BX.out.lt
  have xx0 := kX.cell 0
  have xx1 := kX.cell 1
  have xx2 := kX.cell 2
  have xx3 := kX.cell 3
  have xx4 := kX.cell 4
  have xx5 := kX.cell 5
  have xx6 := kX.cell 6
  simp at ax0 ax1 ax2 ax3 ax4 ax5 ax6 bx0 bx1 bx2 bx3 bx4 bx5 bx6 cx0 cx1 cx2 cx3 cx4 cx5 cx6 xx0 xx1 xx2 xx3 xx4 xx5 xx6
  have lA := kA.lt
  have lB := kB.lt
  have lC := kC.lt
  have lX := kX.lt
  clear kA kB kC kX
  simp only [tyCells]
  go_upto_region 9 with fail
  clear ax0 ax1 ax2 ax3 ax4 ax5 ax6 bx0 bx1 bx2 bx3 bx4 bx5 bx6 cx0 cx1 cx2 cx3 cx4 cx5 cx6 xx0 xx1 xx2 xx3 xx4 xx5 xx6 lA lB lC lX
  have hsz := AC.out.size
  have hbw2 : Below w.heap.size w (w6.alloc (.cells #[.int .i64 X.kind, .string X.pkg, .int .i64 X.major, .string X.mod, .string X.name, .slice na6 X.names.length nc6, .slice sa6 X.subs.length sc6] 25)) := (acc0 HBW.out HBW.out.size AC.out).alloc (by have := HBW.out.size; omega) _
  have nbA := (BA.out.under AC.out BA.out.lt).alloc (.cells #[.int .i64 X.kind, .string X.pkg, .int .i64 X.major, .string X.mod, .string X.name, .slice na6 X.names.length nc6, .slice sa6 X.subs.length sc6] 25)
  have ntA := ((TA.out.under AC.out).alloc hsz (.cells #[.int .i64 X.kind, .string X.pkg, .int .i64 X.major, .string X.mod, .string X.name, .slice na6 X.names.length nc6, .slice sa6 X.subs.length sc6] 25)).mono (show V2w.heap.size ≤ (w6.alloc (.cells #[.int .i64 X.kind, .string X.pkg, .int .i64 X.major, .string X.mod, .string X.name, .slice na6 X.names.length nc6, .slice sa6 X.subs.length sc6] 25)).heap.size by simp; omega)
  have nbB := (BB.out.under AC.out BB.out.lt).alloc (.cells #[.int .i64 X.kind, .string X.pkg, .int .i64 X.major, .string X.mod, .string X.name, .slice na6 X.names.length nc6, .slice sa6 X.subs.length sc6] 25)
  have ntB := ((TB.out.under AC.out).alloc hsz (.cells #[.int .i64 X.kind, .string X.pkg, .int .i64 X.major, .string X.mod, .string X.name, .slice na6 X.names.length nc6, .slice sa6 X.subs.length sc6] 25)).mono (show V2w.heap.size ≤ (w6.alloc (.cells #[.int .i64 X.kind, .string X.pkg, .int .i64 X.major, .string X.mod, .string X.name, .slice na6 X.names.length nc6, .slice sa6 X.subs.length sc6] 25)).heap.size by simp; omega)
  have nbC := (BC.out.under AC.out BC.out.lt).alloc (.cells #[.int .i64 X.kind, .string X.pkg, .int .i64 X.major, .string X.mod, .string X.name, .slice na6 X.names.length nc6, .slice sa6 X.subs.length sc6] 25)
  have ntC := ((TC.out.under AC.out).alloc hsz (.cells #[.int .i64 X.kind, .string X.pkg, .int .i64 X.major, .string X.mod, .string X.name, .slice na6 X.names.length nc6, .slice sa6 X.subs.length sc6] 25)).mono (show V2w.heap.size ≤ (w6.alloc (.cells #[.int .i64 X.kind, .string X.pkg, .int .i64 X.major, .string X.mod, .string X.name, .slice na6 X.names.length nc6, .slice sa6 X.subs.length sc6] 25)).heap.size by simp; omega)
  have nbX := (BX.out.under AC.out BX.out.lt).alloc (.cells #[.int .i64 X.kind, .string X.pkg, .int .i64 X.major, .string X.mod, .string X.name, .slice na6 X.names.length nc6, .slice sa6 X.subs.length sc6] 25)
  have ntX := ((TX.out.under AC.out).alloc hsz (.cells #[.int .i64 X.kind, .string X.pkg, .int .i64 X.major, .string X.mod, .string X.name, .slice na6 X.names.length nc6, .slice sa6 X.subs.length sc6] 25)).mono (show V2w.heap.size ≤ (w6.alloc (.cells #[.int .i64 X.kind, .string X.pkg, .int .i64 X.major, .string X.mod, .string X.name, .slice na6 X.names.length nc6, .slice sa6 X.subs.length sc6] 25)).heap.size by simp; omega)
  have nbU := Blk.new w6 #[.int .i64 X.kind, .string X.pkg, .int .i64 X.major, .string X.mod, .string X.name, .slice na6 X.names.length nc6, .slice sa6 X.subs.length sc6] 25
  have ntU := ((HTM.out.mono fun b hb => hb.2).toC.alloc (Nat.le_refl _) (.cells #[.int .i64 X.kind, .string X.pkg, .int .i64 X.major, .string X.mod, .string X.name, .slice na6 X.names.length nc6, .slice sa6 X.subs.length sc6] 25)).mono (show w6.heap.size ≤ (w6.alloc (.cells #[.int .i64 X.kind, .string X.pkg, .int .i64 X.major, .string X.mod, .string X.name, .slice na6 X.names.length nc6, .slice sa6 X.subs.length sc6] 25)).heap.size by simp)
  simp only [tyCells] at ntU
  generalize hxb : w6.heap.size = blkU at nbU ⊢
  generalize (w6.alloc (.cells #[.int .i64 X.kind, .string X.pkg, .int .i64 X.major, .string X.mod, .string X.name, .slice na6 X.names.length nc6, .slice sa6 X.subs.length sc6] 25)) = V3w at hbw2 nbA nbB nbC nbX nbU ntA ntB ntC ntX ntU ⊢
  clear hxb hsz HTM AC HBW BA TA BB TB BC TC BX TX
  have HBW := Lib.hid hbw2
  have BA := Lib.hid nbA
  have TA := Lib.hid ntA
  have BB := Lib.hid nbB
  have TB := Lib.hid ntB
  have BC := Lib.hid nbC
  have TC := Lib.hid ntC
  have BX := Lib.hid nbX
  have TX := Lib.hid ntX
  have BU := Lib.hid nbU
  have TU := Lib.hid ntU
  clear hbw2 nbA ntA nbB ntB nbC ntC nbX ntX nbU ntU
  have V0 := Lib.hid (Below.refl V3w.heap.size V3w)
  have kA := BA.out.under V0.out BA.out.lt
  have ax0 := kA.cell 0
  have ax1 := kA.cell 1
  have ax2 := kA.cell 2
  have ax3 := kA.cell 3
  have ax4 := kA.cell 4
  have ax5 := kA.cell 5
  have ax6 := kA.cell 6
  have kB := BB.out.under V0.out BB.out.lt
  have bx0 := kB.cell 0
  have bx1 := kB.cell 1
  have bx2 := kB.cell 2
  have bx3 := kB.cell 3
  have bx4 := kB.cell 4
  have bx5 := kB.cell 5
  have bx6 := kB.cell 6
  have kC := BC.out.under V0.out BC.out.lt
  have cx0 := kC.cell 0
  have cx1 := kC.cell 1
  have cx2 := kC.cell 2
  have cx3 := kC.cell 3
  have cx4 := kC.cell 4
  have cx5 := kC.cell 5
  have cx6 := kC.cell 6
  have kX := BX.out.under V0.out BX.out.lt
  have xx0 := kX.cell 0
  have xx1 := kX.cell 1
  have xx2 := kX.cell 2
  have xx3 := kX.cell 3
  have xx4 := kX.cell 4
  have xx5 := kX.cell 5
  have xx6 := kX.cell 6
  have kU := BU.out.under V0.out BU.out.lt
  have ux0 := kU.cell 0
  have ux1 := kU.cell 1
  have ux2 := kU.cell 2
  have ux3 := kU.cell 3
  have ux4 := kU.cell 4
  have ux5 := kU.cell 5
  have ux6 := kU.cell 6
  simp at ax0 ax1 ax2 ax3 ax4 ax5 ax6 bx0 bx1 bx2 bx3 bx4 bx5 bx6 cx0 cx1 cx2 cx3 cx4 cx5 cx6 xx0 xx1 xx2 xx3 xx4 xx5 xx6 ux0 ux1 ux2 ux3 ux4 ux5 ux6
  have lA := kA.lt
  have lB := kB.lt
  have lC := kC.lt
  have lX := kX.lt
  have lU := kU.lt
  clear kA kB kC kX kU
  have hneq : (is != is) = false := by simp
  go_wp2_with fail
  refine (rSame_c X X _ _ V3w.heap.size V3w (TX.out.under V0.out) (TU.out.under V0.out) V0.out.size).mono ?_
  rintro e w7 ⟨rfl, hb⟩
  clear ax0 ax1 ax2 ax3 ax4 ax5 ax6 bx0 bx1 bx2 bx3 bx4 bx5 bx6 cx0 cx1 cx2 cx3 cx4 cx5 cx6 xx0 xx1 xx2 xx3 xx4 xx5 xx6 ux0 ux1 ux2 ux3 ux4 ux5 ux6 lA lB lC lX lU
  have AC7 := Lib.hid (V0.out.trans (hb.mono V0.out.size))
  clear hb
  have kA := BA.out.under AC7.out BA.out.lt
  have ax0 := kA.cell 0
  have ax1 := kA.cell 1
  have ax2 := kA.cell 2
  have ax3 := kA.cell 3
  have ax4 := kA.cell 4
  have ax5 := kA.cell 5
  have ax6 := kA.cell 6
  have kB := BB.out.under AC7.out BB.out.lt
  have bx0 := kB.cell 0
  have bx1 := kB.cell 1
  have bx2 := kB.cell 2
  have bx3 := kB.cell 3
  have bx4 := kB.cell 4
  have bx5 := kB.cell 5
  have bx6 := kB.cell 6
  have kC := BC.out.under AC7.out BC.out.lt
  have cx0 := kC.cell 0
  have cx1 := kC.cell 1
  have cx2 := kC.cell 2
  have cx3 := kC.cell 3
  have cx4 := kC.cell 4
  have cx5 := kC.cell 5
  have cx6 := kC.cell 6
  have kX := BX.out.under AC7.out BX.out.lt
  have xx0 := kX.cell 0
  have xx1 := kX.cell 1
  have xx2 := kX.cell 2
  have xx3 := kX.cell 3
  have xx4 := kX.cell 4
  have xx5 := kX.cell 5
  have xx6 := kX.cell 6
  have kU := BU.out.under AC7.out BU.out.lt
  have ux0 := kU.cell 0
  have ux1 := kU.cell 1
  have ux2 := kU.cell 2
  have ux3 := kU.cell 3
  have ux4 := kU.cell 4
  have ux5 := kU.cell 5
  have ux6 := kU.cell 6
  simp at ax0 ax1 ax2 ax3 ax4 ax5 ax6 bx0 bx1 bx2 bx3 bx4 bx5 bx6 cx0 cx1 cx2 cx3 cx4 cx5 cx6 xx0 xx1 xx2 xx3 xx4 xx5 xx6 ux0 ux1 ux2 ux3 ux4 ux5 ux6
  have lA := kA.lt
  have lB := kB.lt
  have lC := kC.lt
  have lX := kX.lt
  have lU := kU.lt
  clear kA kB kC kX kU
  rw [(alike_iff X X).2 rfl]
  go_upto_region 11 with fail
  go_cut [84] (fun s84 wx => s84 = .bool false ∧ Below V3w.heap.size V3w wx)
  case first =>
    cases is
    · go_wp2_with fail
      go_meet
      exact ⟨rfl, AC7.out⟩
    · have L := Lib.hid (LR.out X (some_get HI.out HX.out))
      go_wp2_with fail
      refine (sub_plain a X _ _ V3w.heap.size w7 (TA.out.under AC7.out) (TX.out.under AC7.out) AC7.out.size Pa.out L.out.1 true L.out.2.1).mono ?_
      rintro e w8 ⟨rfl, hb⟩
      clear ax0 ax1 ax2 ax3 ax4 ax5 ax6 bx0 bx1 bx2 bx3 bx4 bx5 bx6 cx0 cx1 cx2 cx3 cx4 cx5 cx6 xx0 xx1 xx2 xx3 xx4 xx5 xx6 ux0 ux1 ux2 ux3 ux4 ux5 ux6 lA lB lC lX lU
      have AC8 := Lib.hid (AC7.out.trans (hb.mono AC7.out.size))
      clear hb
      have kA := BA.out.under AC8.out BA.out.lt
      have ax0 := kA.cell 0
      have ax1 := kA.cell 1
      have ax2 := kA.cell 2
      have ax3 := kA.cell 3
      have ax4 := kA.cell 4
      have ax5 := kA.cell 5
      have ax6 := kA.cell 6
      have kB := BB.out.under AC8.out BB.out.lt
      have bx0 := kB.cell 0
      have bx1 := kB.cell 1
      have bx2 := kB.cell 2
      have bx3 := kB.cell 3
      have bx4 := kB.cell 4
      have bx5 := kB.cell 5
      have bx6 := kB.cell 6
      have kC := BC.out.under AC8.out BC.out.lt
      have cx0 := kC.cell 0
      have cx1 := kC.cell 1
      have cx2 := kC.cell 2
      have cx3 := kC.cell 3
      have cx4 := kC.cell 4
      have cx5 := kC.cell 5
      have cx6 := kC.cell 6
      have kX := BX.out.under AC8.out BX.out.lt
      have xx0 := kX.cell 0
      have xx1 := kX.cell 1
      have xx2 := kX.cell 2
      have xx3 := kX.cell 3
      have xx4 := kX.cell 4
      have xx5 := kX.cell 5
      have xx6 := kX.cell 6
      have kU := BU.out.under AC8.out BU.out.lt
      have ux0 := kU.cell 0
      have ux1 := kU.cell 1
      have ux2 := kU.cell 2
      have ux3 := kU.cell 3
      have ux4 := kU.cell 4
      have ux5 := kU.cell 5
      have ux6 := kU.cell 6
      simp at ax0 ax1 ax2 ax3 ax4 ax5 ax6 bx0 bx1 bx2 bx3 bx4 bx5 bx6 cx0 cx1 cx2 cx3 cx4 cx5 cx6 xx0 xx1 xx2 xx3 xx4 xx5 xx6 ux0 ux1 ux2 ux3 ux4 ux5 ux6
      have lA := kA.lt
      have lB := kB.lt
      have lC := kC.lt
      have lX := kX.lt
      have lU := kU.lt
      clear kA kB kC kX kU
      go_wp2_with fail
      refine (sub_plain b X _ _ V3w.heap.size w8 (TB.out.under AC8.out) (TX.out.under AC8.out) AC8.out.size Pb.out L.out.1 true L.out.2.2.1).mono ?_
      rintro e w9 ⟨rfl, hb⟩
      clear ax0 ax1 ax2 ax3 ax4 ax5 ax6 bx0 bx1 bx2 bx3 bx4 bx5 bx6 cx0 cx1 cx2 cx3 cx4 cx5 cx6 xx0 xx1 xx2 xx3 xx4 xx5 xx6 ux0 ux1 ux2 ux3 ux4 ux5 ux6 lA lB lC lX lU
      have AC9 := Lib.hid (AC8.out.trans (hb.mono AC8.out.size))
      clear hb
      have kA := BA.out.under AC9.out BA.out.lt
      have ax0 := kA.cell 0
      have ax1 := kA.cell 1
      have ax2 := kA.cell 2
      have ax3 := kA.cell 3
      have ax4 := kA.cell 4
      have ax5 := kA.cell 5
      have ax6 := kA.cell 6
      have kB := BB.out.under AC9.out BB.out.lt
      have bx0 := kB.cell 0
      have bx1 := kB.cell 1
      have bx2 := kB.cell 2
      have bx3 := kB.cell 3
      have bx4 := kB.cell 4
      have bx5 := kB.cell 5
      have bx6 := kB.cell 6
      have kC := BC.out.under AC9.out BC.out.lt
      have cx0 := kC.cell 0
      have cx1 := kC.cell 1
      have cx2 := kC.cell 2
      have cx3 := kC.cell 3
      have cx4 := kC.cell 4
      have cx5 := kC.cell 5
      have cx6 := kC.cell 6
      have kX := BX.out.under AC9.out BX.out.lt
      have xx0 := kX.cell 0
      have xx1 := kX.cell 1
      have xx2 := kX.cell 2
      have xx3 := kX.cell 3
      have xx4 := kX.cell 4
      have xx5 := kX.cell 5
      have xx6 := kX.cell 6
      have kU := BU.out.under AC9.out BU.out.lt
      have ux0 := kU.cell 0
      have ux1 := kU.cell 1
      have ux2 := kU.cell 2
      have ux3 := kU.cell 3
      have ux4 := kU.cell 4
      have ux5 := kU.cell 5
      have ux6 := kU.cell 6
      simp at ax0 ax1 ax2 ax3 ax4 ax5 ax6 bx0 bx1 bx2 bx3 bx4 bx5 bx6 cx0 cx1 cx2 cx3 cx4 cx5 cx6 xx0 xx1 xx2 xx3 xx4 xx5 xx6 ux0 ux1 ux2 ux3 ux4 ux5 ux6
      have lA := kA.lt
      have lB := kB.lt
      have lC := kC.lt
      have lX := kX.lt
      have lU := kU.lt
      clear kA kB kC kX kU
      go_wp2_with fail
      refine (sub_plain a c _ _ V3w.heap.size w9 (TA.out.under AC9.out) (TC.out.under AC9.out) AC9.out.size Pa.out Pc.out v1 V1.out).mono ?_
      rintro e w10 ⟨rfl, hb⟩
      clear ax0 ax1 ax2 ax3 ax4 ax5 ax6 bx0 bx1 bx2 bx3 bx4 bx5 bx6 cx0 cx1 cx2 cx3 cx4 cx5 cx6 xx0 xx1 xx2 xx3 xx4 xx5 xx6 ux0 ux1 ux2 ux3 ux4 ux5 ux6 lA lB lC lX lU
      have AC10 := Lib.hid (AC9.out.trans (hb.mono AC9.out.size))
      clear hb
      have kA := BA.out.under AC10.out BA.out.lt
      have ax0 := kA.cell 0
      have ax1 := kA.cell 1
      have ax2 := kA.cell 2
      have ax3 := kA.cell 3
      have ax4 := kA.cell 4
      have ax5 := kA.cell 5
      have ax6 := kA.cell 6
      have kB := BB.out.under AC10.out BB.out.lt
      have bx0 := kB.cell 0
      have bx1 := kB.cell 1
      have bx2 := kB.cell 2
      have bx3 := kB.cell 3
      have bx4 := kB.cell 4
      have bx5 := kB.cell 5
      have bx6 := kB.cell 6
      have kC := BC.out.under AC10.out BC.out.lt
      have cx0 := kC.cell 0
      have cx1 := kC.cell 1
      have cx2 := kC.cell 2
      have cx3 := kC.cell 3
      have cx4 := kC.cell 4
      have cx5 := kC.cell 5
      have cx6 := kC.cell 6
      have kX := BX.out.under AC10.out BX.out.lt
      have xx0 := kX.cell 0
      have xx1 := kX.cell 1
      have xx2 := kX.cell 2
      have xx3 := kX.cell 3
      have xx4 := kX.cell 4
      have xx5 := kX.cell 5
      have xx6 := kX.cell 6
      have kU := BU.out.under AC10.out BU.out.lt
      have ux0 := kU.cell 0
      have ux1 := kU.cell 1
      have ux2 := kU.cell 2
      have ux3 := kU.cell 3
      have ux4 := kU.cell 4
      have ux5 := kU.cell 5
      have ux6 := kU.cell 6
      simp at ax0 ax1 ax2 ax3 ax4 ax5 ax6 bx0 bx1 bx2 bx3 bx4 bx5 bx6 cx0 cx1 cx2 cx3 cx4 cx5 cx6 xx0 xx1 xx2 xx3 xx4 xx5 xx6 ux0 ux1 ux2 ux3 ux4 ux5 ux6
      have lA := kA.lt
      have lB := kB.lt
      have lC := kC.lt
      have lX := kX.lt
      have lU := kU.lt
      clear kA kB kC kX kU
      cases v1
      · go_wp2_with fail
        go_meet
        exact ⟨rfl, AC10.out⟩
      · go_wp2_with fail
        refine (sub_plain b c _ _ V3w.heap.size w10 (TB.out.under AC10.out) (TC.out.under AC10.out) AC10.out.size Pb.out Pc.out v2 V2.out).mono ?_
        rintro e w11 ⟨rfl, hb⟩
        clear ax0 ax1 ax2 ax3 ax4 ax5 ax6 bx0 bx1 bx2 bx3 bx4 bx5 bx6 cx0 cx1 cx2 cx3 cx4 cx5 cx6 xx0 xx1 xx2 xx3 xx4 xx5 xx6 ux0 ux1 ux2 ux3 ux4 ux5 ux6 lA lB lC lX lU
        have AC11 := Lib.hid (AC10.out.trans (hb.mono AC10.out.size))
        clear hb
        have kA := BA.out.under AC11.out BA.out.lt
        have ax0 := kA.cell 0
        have ax1 := kA.cell 1
        have ax2 := kA.cell 2
        have ax3 := kA.cell 3
        have ax4 := kA.cell 4
        have ax5 := kA.cell 5
        have ax6 := kA.cell 6
        have kB := BB.out.under AC11.out BB.out.lt
        have bx0 := kB.cell 0
        have bx1 := kB.cell 1
        have bx2 := kB.cell 2
        have bx3 := kB.cell 3
        have bx4 := kB.cell 4
        have bx5 := kB.cell 5
        have bx6 := kB.cell 6
        have kC := BC.out.under AC11.out BC.out.lt
        have cx0 := kC.cell 0
        have cx1 := kC.cell 1
        have cx2 := kC.cell 2
        have cx3 := kC.cell 3
        have cx4 := kC.cell 4
        have cx5 := kC.cell 5
        have cx6 := kC.cell 6
        have kX := BX.out.under AC11.out BX.out.lt
        have xx0 := kX.cell 0
        have xx1 := kX.cell 1
        have xx2 := kX.cell 2
        have xx3 := kX.cell 3
        have xx4 := kX.cell 4
        have xx5 := kX.cell 5
        have xx6 := kX.cell 6
        have kU := BU.out.under AC11.out BU.out.lt
        have ux0 := kU.cell 0
        have ux1 := kU.cell 1
        have ux2 := kU.cell 2
        have ux3 := kU.cell 3
        have ux4 := kU.cell 4
        have ux5 := kU.cell 5
        have ux6 := kU.cell 6
        simp at ax0 ax1 ax2 ax3 ax4 ax5 ax6 bx0 bx1 bx2 bx3 bx4 bx5 bx6 cx0 cx1 cx2 cx3 cx4 cx5 cx6 xx0 xx1 xx2 xx3 xx4 xx5 xx6 ux0 ux1 ux2 ux3 ux4 ux5 ux6
        have lA := kA.lt
        have lB := kB.lt
        have lC := kC.lt
        have lX := kX.lt
        have lU := kU.lt
        clear kA kB kC kX kU
        cases v2
        · go_wp2_with fail
          go_meet
          exact ⟨rfl, AC11.out⟩
        · go_wp2_with fail
          refine (sub_plain X c _ _ V3w.heap.size w11 (TX.out.under AC11.out) (TC.out.under AC11.out) AC11.out.size L.out.1 Pc.out true (L.out.2.2.2 V1.out V2.out)).mono ?_
          rintro e w12 ⟨rfl, hb⟩
          clear ax0 ax1 ax2 ax3 ax4 ax5 ax6 bx0 bx1 bx2 bx3 bx4 bx5 bx6 cx0 cx1 cx2 cx3 cx4 cx5 cx6 xx0 xx1 xx2 xx3 xx4 xx5 xx6 ux0 ux1 ux2 ux3 ux4 ux5 ux6 lA lB lC lX lU
          have AC12 := Lib.hid (AC11.out.trans (hb.mono AC11.out.size))
          clear hb
          have kA := BA.out.under AC12.out BA.out.lt
          have ax0 := kA.cell 0
          have ax1 := kA.cell 1
          have ax2 := kA.cell 2
          have ax3 := kA.cell 3
          have ax4 := kA.cell 4
          have ax5 := kA.cell 5
          have ax6 := kA.cell 6
          have kB := BB.out.under AC12.out BB.out.lt
          have bx0 := kB.cell 0
          have bx1 := kB.cell 1
          have bx2 := kB.cell 2
          have bx3 := kB.cell 3
          have bx4 := kB.cell 4
          have bx5 := kB.cell 5
          have bx6 := kB.cell 6
          have kC := BC.out.under AC12.out BC.out.lt
          have cx0 := kC.cell 0
          have cx1 := kC.cell 1
          have cx2 := kC.cell 2
          have cx3 := kC.cell 3
          have cx4 := kC.cell 4
          have cx5 := kC.cell 5
          have cx6 := kC.cell 6
          have kX := BX.out.under AC12.out BX.out.lt
          have xx0 := kX.cell 0
          have xx1 := kX.cell 1
          have xx2 := kX.cell 2
          have xx3 := kX.cell 3
          have xx4 := kX.cell 4
          have xx5 := kX.cell 5
          have xx6 := kX.cell 6
          have kU := BU.out.under AC12.out BU.out.lt
          have ux0 := kU.cell 0
          have ux1 := kU.cell 1
          have ux2 := kU.cell 2
          have ux3 := kU.cell 3
          have ux4 := kU.cell 4
          have ux5 := kU.cell 5
          have ux6 := kU.cell 6
          simp at ax0 ax1 ax2 ax3 ax4 ax5 ax6 bx0 bx1 bx2 bx3 bx4 bx5 bx6 cx0 cx1 cx2 cx3 cx4 cx5 cx6 xx0 xx1 xx2 xx3 xx4 xx5 xx6 ux0 ux1 ux2 ux3 ux4 ux5 ux6
          have lA := kA.lt
          have lB := kB.lt
          have lC := kC.lt
          have lX := kX.lt
          have lU := kU.lt
          clear kA kB kC kX kU
          go_wp2_with fail
          go_meet
          exact ⟨rfl, AC12.out⟩
  case rest =>
    obtain ⟨rfl, hcb⟩ := hcut
    clear ax0 ax1 ax2 ax3 ax4 ax5 ax6 bx0 bx1 bx2 bx3 bx4 bx5 bx6 cx0 cx1 cx2 cx3 cx4 cx5 cx6 xx0 xx1 xx2 xx3 xx4 xx5 xx6 ux0 ux1 ux2 ux3 ux4 ux5 ux6 lA lB lC lX lU
    have AD := Lib.hid hcb
    clear hcb
    have kA := BA.out.under AD.out BA.out.lt
    have ax0 := kA.cell 0
    have ax1 := kA.cell 1
    have ax2 := kA.cell 2
    have ax3 := kA.cell 3
    have ax4 := kA.cell 4
    have ax5 := kA.cell 5
    have ax6 := kA.cell 6
    have kB := BB.out.under AD.out BB.out.lt
    have bx0 := kB.cell 0
    have bx1 := kB.cell 1
    have bx2 := kB.cell 2
    have bx3 := kB.cell 3
    have bx4 := kB.cell 4
    have bx5 := kB.cell 5
    have bx6 := kB.cell 6
    have kC := BC.out.under AD.out BC.out.lt
    have cx0 := kC.cell 0
    have cx1 := kC.cell 1
    have cx2 := kC.cell 2
    have cx3 := kC.cell 3
    have cx4 := kC.cell 4
    have cx5 := kC.cell 5
    have cx6 := kC.cell 6
    have kX := BX.out.under AD.out BX.out.lt
    have xx0 := kX.cell 0
    have xx1 := kX.cell 1
    have xx2 := kX.cell 2
    have xx3 := kX.cell 3
    have xx4 := kX.cell 4
    have xx5 := kX.cell 5
    have xx6 := kX.cell 6
    have kU := BU.out.under AD.out BU.out.lt
    have ux0 := kU.cell 0
    have ux1 := kU.cell 1
    have ux2 := kU.cell 2
    have ux3 := kU.cell 3
    have ux4 := kU.cell 4
    have ux5 := kU.cell 5
    have ux6 := kU.cell 6
    simp at ax0 ax1 ax2 ax3 ax4 ax5 ax6 bx0 bx1 bx2 bx3 bx4 bx5 bx6 cx0 cx1 cx2 cx3 cx4 cx5 cx6 xx0 xx1 xx2 xx3 xx4 xx5 xx6 ux0 ux1 ux2 ux3 ux4 ux5 ux6
    have lA := kA.lt
    have lB := kB.lt
    have lC := kC.lt
    have lX := kX.lt
    have lU := kU.lt
    clear kA kB kC kX kU
    go_wp2_with fail
    refine ((show Calls Try.prog 17 _ wc _ from by have h := Meet_c a b _ _ V3w.heap.size wc (TA.out.under AD.out) (TB.out.under AD.out) AD.out.size; rw [HS.out, HY.out, HW.out] at h; exact h)).mono ?_
    rintro e w13 ⟨⟨cr, rfl, htm⟩, hb⟩
    obtain ⟨na7, nc7, sa7, sc7, fz, rfl, -⟩ := htm.inv
    clear ax0 ax1 ax2 ax3 ax4 ax5 ax6 bx0 bx1 bx2 bx3 bx4 bx5 bx6 cx0 cx1 cx2 cx3 cx4 cx5 cx6 xx0 xx1 xx2 xx3 xx4 xx5 xx6 ux0 ux1 ux2 ux3 ux4 ux5 ux6 lA lB lC lX lU
    have HTM := Lib.hid htm
    have AC := Lib.hid (AD.out.trans (hb.mono AD.out.size))
    clear hb
    clear htm
    have kA := BA.out.under AC.out BA.out.lt
    have ax0 := kA.cell 0
    have ax1 := kA.cell 1
    have ax2 := kA.cell 2
    have ax3 := kA.cell 3
    have ax4 := kA.cell 4
    have ax5 := kA.cell 5
    have ax6 := kA.cell 6
    have kB := BB.out.under AC.out BB.out.lt
    have bx0 := kB.cell 0
    have bx1 := kB.cell 1
    have bx2 := kB.cell 2
    have bx3 := kB.cell 3
    have bx4 := kB.cell 4
    have bx5 := kB.cell 5
    have bx6 := kB.cell 6
    have kC := BC.out.under AC.out BC.out.lt
    have cx0 := kC.cell 0
    have cx1 := kC.cell 1
    have cx2 := kC.cell 2
    have cx3 := kC.cell 3
    have cx4 := kC.cell 4
    have cx5 := kC.cell 5
    have cx6 := kC.cell 6
    have kX := BX.out.under AC.out BX.out.lt
    have xx0 := kX.cell 0
    have xx1 := kX.cell 1
    have xx2 := kX.cell 2
    have xx3 := kX.cell 3
    have xx4 := kX.cell 4
    have xx5 := kX.cell 5
    have xx6 := kX.cell 6
    have kU := BU.out.under AC.out BU.out.lt
    have ux0 := kU.cell 0
    have ux1 := kU.cell 1
    have ux2 := kU.cell 2
    have ux3 := kU.cell 3
    have ux4 := kU.cell 4
    have ux5 := kU.cell 5
    have ux6 := kU.cell 6
    simp at ax0 ax1 ax2 ax3 ax4 ax5 ax6 bx0 bx1 bx2 bx3 bx4 bx5 bx6 cx0 cx1 cx2 cx3 cx4 cx5 cx6 xx0 xx1 xx2 xx3 xx4 xx5 xx6 ux0 ux1 ux2 ux3 ux4 ux5 ux6
    have lA := kA.lt
    have lB := kB.lt
    have lC := kC.lt
    have lX := kX.lt
    have lU := kU.lt
    clear kA kB kC kX kU
    simp only [tyCells]
    go_upto_region 14 with fail
    clear ax0 ax1 ax2 ax3 ax4 ax5 ax6 bx0 bx1 bx2 bx3 bx4 bx5 bx6 cx0 cx1 cx2 cx3 cx4 cx5 cx6 xx0 xx1 xx2 xx3 xx4 xx5 xx6 ux0 ux1 ux2 ux3 ux4 ux5 ux6 lA lB lC lX lU
    have hsz := AC.out.size
    have hbw2 : Below w.heap.size w (w13.alloc (.cells #[.int .i64 Y.kind, .string Y.pkg, .int .i64 Y.major, .string Y.mod, .string Y.name, .slice na7 Y.names.length nc7, .slice sa7 Y.subs.length sc7] 25)) := (acc0 HBW.out HBW.out.size AC.out).alloc (by have := HBW.out.size; omega) _
    have nbA := (BA.out.under AC.out BA.out.lt).alloc (.cells #[.int .i64 Y.kind, .string Y.pkg, .int .i64 Y.major, .string Y.mod, .string Y.name, .slice na7 Y.names.length nc7, .slice sa7 Y.subs.length sc7] 25)
    have ntA := ((TA.out.under AC.out).alloc hsz (.cells #[.int .i64 Y.kind, .string Y.pkg, .int .i64 Y.major, .string Y.mod, .string Y.name, .slice na7 Y.names.length nc7, .slice sa7 Y.subs.length sc7] 25)).mono (show V3w.heap.size ≤ (w13.alloc (.cells #[.int .i64 Y.kind, .string Y.pkg, .int .i64 Y.major, .string Y.mod, .string Y.name, .slice na7 Y.names.length nc7, .slice sa7 Y.subs.length sc7] 25)).heap.size by simp; omega)
    have nbB := (BB.out.under AC.out BB.out.lt).alloc (.cells #[.int .i64 Y.kind, .string Y.pkg, .int .i64 Y.major, .string Y.mod, .string Y.name, .slice na7 Y.names.length nc7, .slice sa7 Y.subs.length sc7] 25)
    have ntB := ((TB.out.under AC.out).alloc hsz (.cells #[.int .i64 Y.kind, .string Y.pkg, .int .i64 Y.major, .string Y.mod, .string Y.name, .slice na7 Y.names.length nc7, .slice sa7 Y.subs.length sc7] 25)).mono (show V3w.heap.size ≤ (w13.alloc (.cells #[.int .i64 Y.kind, .string Y.pkg, .int .i64 Y.major, .string Y.mod, .string Y.name, .slice na7 Y.names.length nc7, .slice sa7 Y.subs.length sc7] 25)).heap.size by simp; omega)
    have nbC := (BC.out.under AC.out BC.out.lt).alloc (.cells #[.int .i64 Y.kind, .string Y.pkg, .int .i64 Y.major, .string Y.mod, .string Y.name, .slice na7 Y.names.length nc7, .slice sa7 Y.subs.length sc7] 25)
    have ntC := ((TC.out.under AC.out).alloc hsz (.cells #[.int .i64 Y.kind, .string Y.pkg, .int .i64 Y.major, .string Y.mod, .string Y.name, .slice na7 Y.names.length nc7, .slice sa7 Y.subs.length sc7] 25)).mono (show V3w.heap.size ≤ (w13.alloc (.cells #[.int .i64 Y.kind, .string Y.pkg, .int .i64 Y.major, .string Y.mod, .string Y.name, .slice na7 Y.names.length nc7, .slice sa7 Y.subs.length sc7] 25)).heap.size by simp; omega)
    have nbX := (BX.out.under AC.out BX.out.lt).alloc (.cells #[.int .i64 Y.kind, .string Y.pkg, .int .i64 Y.major, .string Y.mod, .string Y.name, .slice na7 Y.names.length nc7, .slice sa7 Y.subs.length sc7] 25)
    have ntX := ((TX.out.under AC.out).alloc hsz (.cells #[.int .i64 Y.kind, .string Y.pkg, .int .i64 Y.major, .string Y.mod, .string Y.name, .slice na7 Y.names.length nc7, .slice sa7 Y.subs.length sc7] 25)).mono (show V3w.heap.size ≤ (w13.alloc (.cells #[.int .i64 Y.kind, .string Y.pkg, .int .i64 Y.major, .string Y.mod, .string Y.name, .slice na7 Y.names.length nc7, .slice sa7 Y.subs.length sc7] 25)).heap.size by simp; omega)
    have nbU := (BU.out.under AC.out BU.out.lt).alloc (.cells #[.int .i64 Y.kind, .string Y.pkg, .int .i64 Y.major, .string Y.mod, .string Y.name, .slice na7 Y.names.length nc7, .slice sa7 Y.subs.length sc7] 25)
    have ntU := ((TU.out.under AC.out).alloc hsz (.cells #[.int .i64 Y.kind, .string Y.pkg, .int .i64 Y.major, .string Y.mod, .string Y.name, .slice na7 Y.names.length nc7, .slice sa7 Y.subs.length sc7] 25)).mono (show V3w.heap.size ≤ (w13.alloc (.cells #[.int .i64 Y.kind, .string Y.pkg, .int .i64 Y.major, .string Y.mod, .string Y.name, .slice na7 Y.names.length nc7, .slice sa7 Y.subs.length sc7] 25)).heap.size by simp; omega)
    have nbY := Blk.new w13 #[.int .i64 Y.kind, .string Y.pkg, .int .i64 Y.major, .string Y.mod, .string Y.name, .slice na7 Y.names.length nc7, .slice sa7 Y.subs.length sc7] 25
    have ntY := ((HTM.out.mono fun b hb => hb.2).toC.alloc (Nat.le_refl _) (.cells #[.int .i64 Y.kind, .string Y.pkg, .int .i64 Y.major, .string Y.mod, .string Y.name, .slice na7 Y.names.length nc7, .slice sa7 Y.subs.length sc7] 25)).mono (show w13.heap.size ≤ (w13.alloc (.cells #[.int .i64 Y.kind, .string Y.pkg, .int .i64 Y.major, .string Y.mod, .string Y.name, .slice na7 Y.names.length nc7, .slice sa7 Y.subs.length sc7] 25)).heap.size by simp)
    simp only [tyCells] at ntY
    generalize hxb : w13.heap.size = blkY at nbY ⊢
    generalize (w13.alloc (.cells #[.int .i64 Y.kind, .string Y.pkg, .int .i64 Y.major, .string Y.mod, .string Y.name, .slice na7 Y.names.length nc7, .slice sa7 Y.subs.length sc7] 25)) = V4w at hbw2 nbA nbB nbC nbX nbU nbY ntA ntB ntC ntX ntU ntY ⊢
    clear hxb hsz HTM AC HBW BA TA BB TB BC TC BX TX BU TU
    have HBW := Lib.hid hbw2
    have BA := Lib.hid nbA
    have TA := Lib.hid ntA
    have BB := Lib.hid nbB
    have TB := Lib.hid ntB
    have BC := Lib.hid nbC
    have TC := Lib.hid ntC
    have BX := Lib.hid nbX
    have TX := Lib.hid ntX
    have BU := Lib.hid nbU
    have TU := Lib.hid ntU
    have BY := Lib.hid nbY
    have TY := Lib.hid ntY
    clear hbw2 nbA ntA nbB ntB nbC ntC nbX ntX nbU ntU nbY ntY
    have V0 := Lib.hid (Below.refl V4w.heap.size V4w)
    have kA := BA.out.under V0.out BA.out.lt
    have ax0 := kA.cell 0
    have ax1 := kA.cell 1
    have ax2 := kA.cell 2
    have ax3 := kA.cell 3
    have ax4 := kA.cell 4
    have ax5 := kA.cell 5
    have ax6 := kA.cell 6
    have kB := BB.out.under V0.out BB.out.lt
    have bx0 := kB.cell 0
    have bx1 := kB.cell 1
    have bx2 := kB.cell 2
    have bx3 := kB.cell 3
    have bx4 := kB.cell 4
    have bx5 := kB.cell 5
    have bx6 := kB.cell 6
    have kC := BC.out.under V0.out BC.out.lt
    have cx0 := kC.cell 0
    have cx1 := kC.cell 1
    have cx2 := kC.cell 2
    have cx3 := kC.cell 3
    have cx4 := kC.cell 4
    have cx5 := kC.cell 5
    have cx6 := kC.cell 6
    have kX := BX.out.under V0.out BX.out.lt
    have xx0 := kX.cell 0
    have xx1 := kX.cell 1
    have xx2 := kX.cell 2
    have xx3 := kX.cell 3
    have xx4 := kX.cell 4
    have xx5 := kX.cell 5
    have xx6 := kX.cell 6
    have kU := BU.out.under V0.out BU.out.lt
    have ux0 := kU.cell 0
    have ux1 := kU.cell 1
    have ux2 := kU.cell 2
    have ux3 := kU.cell 3
    have ux4 := kU.cell 4
    have ux5 := kU.cell 5
    have ux6 := kU.cell 6
    have kY := BY.out.under V0.out BY.out.lt
    have yx0 := kY.cell 0
    have yx1 := kY.cell 1
    have yx2 := kY.cell 2
    have yx3 := kY.cell 3
    have yx4 := kY.cell 4
    have yx5 := kY.cell 5
    have yx6 := kY.cell 6
    simp at ax0 ax1 ax2 ax3 ax4 ax5 ax6 bx0 bx1 bx2 bx3 bx4 bx5 bx6 cx0 cx1 cx2 cx3 cx4 cx5 cx6 xx0 xx1 xx2 xx3 xx4 xx5 xx6 ux0 ux1 ux2 ux3 ux4 ux5 ux6 yx0 yx1 yx2 yx3 yx4 yx5 yx6
    have lA := kA.lt
    have lB := kB.lt
    have lC := kC.lt
    have lX := kX.lt
    have lU := kU.lt
    have lY := kY.lt
    clear kA kB kC kX kU kY
    go_cut [119] (fun s119 wx => s119 = .bool false ∧ Below V4w.heap.size V4w wx)
    case first =>
      cases was
      · go_wp2_with fail
        go_meet
        exact ⟨rfl, V0.out⟩
      · have L := Lib.hid (LS.out Y (some_get HW.out HY.out))
        go_wp2_with fail
        refine (sub_plain Y a _ _ V4w.heap.size V4w (TY.out.under V0.out) (TA.out.under V0.out) V0.out.size L.out.1 Pa.out true L.out.2.1).mono ?_
        rintro e w14 ⟨rfl, hb⟩
        clear ax0 ax1 ax2 ax3 ax4 ax5 ax6 bx0 bx1 bx2 bx3 bx4 bx5 bx6 cx0 cx1 cx2 cx3 cx4 cx5 cx6 xx0 xx1 xx2 xx3 xx4 xx5 xx6 ux0 ux1 ux2 ux3 ux4 ux5 ux6 yx0 yx1 yx2 yx3 yx4 yx5 yx6 lA lB lC lX lU lY
        have AC14 := Lib.hid (V0.out.trans (hb.mono V0.out.size))
        clear hb
        have kA := BA.out.under AC14.out BA.out.lt
        have ax0 := kA.cell 0
        have ax1 := kA.cell 1
        have ax2 := kA.cell 2
        have ax3 := kA.cell 3
        have ax4 := kA.cell 4
        have ax5 := kA.cell 5
        have ax6 := kA.cell 6
        have kB := BB.out.under AC14.out BB.out.lt
        have bx0 := kB.cell 0
        have bx1 := kB.cell 1
        have bx2 := kB.cell 2
        have bx3 := kB.cell 3
        have bx4 := kB.cell 4
        have bx5 := kB.cell 5
        have bx6 := kB.cell 6
        have kC := BC.out.under AC14.out BC.out.lt
        have cx0 := kC.cell 0
        have cx1 := kC.cell 1
        have cx2 := kC.cell 2
        have cx3 := kC.cell 3
        have cx4 := kC.cell 4
        have cx5 := kC.cell 5
        have cx6 := kC.cell 6
        have kX := BX.out.under AC14.out BX.out.lt
        have xx0 := kX.cell 0
        have xx1 := kX.cell 1
        have xx2 := kX.cell 2
        have xx3 := kX.cell 3
        have xx4 := kX.cell 4
        have xx5 := kX.cell 5
        have xx6 := kX.cell 6
        have kU := BU.out.under AC14.out BU.out.lt
        have ux0 := kU.cell 0
        have ux1 := kU.cell 1
        have ux2 := kU.cell 2
        have ux3 := kU.cell 3
        have ux4 := kU.cell 4
        have ux5 := kU.cell 5
        have ux6 := kU.cell 6
        have kY := BY.out.under AC14.out BY.out.lt
        have yx0 := kY.cell 0
        have yx1 := kY.cell 1
        have yx2 := kY.cell 2
        have yx3 := kY.cell 3
        have yx4 := kY.cell 4
        have yx5 := kY.cell 5
        have yx6 := kY.cell 6
        simp at ax0 ax1 ax2 ax3 ax4 ax5 ax6 bx0 bx1 bx2 bx3 bx4 bx5 bx6 cx0 cx1 cx2 cx3 cx4 cx5 cx6 xx0 xx1 xx2 xx3 xx4 xx5 xx6 ux0 ux1 ux2 ux3 ux4 ux5 ux6 yx0 yx1 yx2 yx3 yx4 yx5 yx6
        have lA := kA.lt
        have lB := kB.lt
        have lC := kC.lt
        have lX := kX.lt
        have lU := kU.lt
        have lY := kY.lt
        clear kA kB kC kX kU kY
        go_wp2_with fail
        refine (sub_plain Y b _ _ V4w.heap.size w14 (TY.out.under AC14.out) (TB.out.under AC14.out) AC14.out.size L.out.1 Pb.out true L.out.2.2.1).mono ?_
        rintro e w15 ⟨rfl, hb⟩
        clear ax0 ax1 ax2 ax3 ax4 ax5 ax6 bx0 bx1 bx2 bx3 bx4 bx5 bx6 cx0 cx1 cx2 cx3 cx4 cx5 cx6 xx0 xx1 xx2 xx3 xx4 xx5 xx6 ux0 ux1 ux2 ux3 ux4 ux5 ux6 yx0 yx1 yx2 yx3 yx4 yx5 yx6 lA lB lC lX lU lY
        have AC15 := Lib.hid (AC14.out.trans (hb.mono AC14.out.size))
        clear hb
        have kA := BA.out.under AC15.out BA.out.lt
        have ax0 := kA.cell 0
        have ax1 := kA.cell 1
        have ax2 := kA.cell 2
        have ax3 := kA.cell 3
        have ax4 := kA.cell 4
        have ax5 := kA.cell 5
        have ax6 := kA.cell 6
        have kB := BB.out.under AC15.out BB.out.lt
        have bx0 := kB.cell 0
        have bx1 := kB.cell 1
        have bx2 := kB.cell 2
        have bx3 := kB.cell 3
        have bx4 := kB.cell 4
        have bx5 := kB.cell 5
        have bx6 := kB.cell 6
        have kC := BC.out.under AC15.out BC.out.lt
        have cx0 := kC.cell 0
        have cx1 := kC.cell 1
        have cx2 := kC.cell 2
        have cx3 := kC.cell 3
        have cx4 := kC.cell 4
        have cx5 := kC.cell 5
        have cx6 := kC.cell 6
        have kX := BX.out.under AC15.out BX.out.lt
        have xx0 := kX.cell 0
        have xx1 := kX.cell 1
        have xx2 := kX.cell 2
        have xx3 := kX.cell 3
        have xx4 := kX.cell 4
        have xx5 := kX.cell 5
        have xx6 := kX.cell 6
        have kU := BU.out.under AC15.out BU.out.lt
        have ux0 := kU.cell 0
        have ux1 := kU.cell 1
        have ux2 := kU.cell 2
        have ux3 := kU.cell 3
        have ux4 := kU.cell 4
        have ux5 := kU.cell 5
        have ux6 := kU.cell 6
        have kY := BY.out.under AC15.out BY.out.lt
        have yx0 := kY.cell 0
        have yx1 := kY.cell 1
        have yx2 := kY.cell 2
        have yx3 := kY.cell 3
        have yx4 := kY.cell 4
        have yx5 := kY.cell 5
        have yx6 := kY.cell 6
        simp at ax0 ax1 ax2 ax3 ax4 ax5 ax6 bx0 bx1 bx2 bx3 bx4 bx5 bx6 cx0 cx1 cx2 cx3 cx4 cx5 cx6 xx0 xx1 xx2 xx3 xx4 xx5 xx6 ux0 ux1 ux2 ux3 ux4 ux5 ux6 yx0 yx1 yx2 yx3 yx4 yx5 yx6
        have lA := kA.lt
        have lB := kB.lt
        have lC := kC.lt
        have lX := kX.lt
        have lU := kU.lt
        have lY := kY.lt
        clear kA kB kC kX kU kY
        go_wp2_with fail
        refine (sub_plain c a _ _ V4w.heap.size w15 (TC.out.under AC15.out) (TA.out.under AC15.out) AC15.out.size Pc.out Pa.out v3 V3.out).mono ?_
        rintro e w16 ⟨rfl, hb⟩
        clear ax0 ax1 ax2 ax3 ax4 ax5 ax6 bx0 bx1 bx2 bx3 bx4 bx5 bx6 cx0 cx1 cx2 cx3 cx4 cx5 cx6 xx0 xx1 xx2 xx3 xx4 xx5 xx6 ux0 ux1 ux2 ux3 ux4 ux5 ux6 yx0 yx1 yx2 yx3 yx4 yx5 yx6 lA lB lC lX lU lY
        have AC16 := Lib.hid (AC15.out.trans (hb.mono AC15.out.size))
        clear hb
        have kA := BA.out.under AC16.out BA.out.lt
        have ax0 := kA.cell 0
        have ax1 := kA.cell 1
        have ax2 := kA.cell 2
        have ax3 := kA.cell 3
        have ax4 := kA.cell 4
        have ax5 := kA.cell 5
        have ax6 := kA.cell 6
        have kB := BB.out.under AC16.out BB.out.lt
        have bx0 := kB.cell 0
        have bx1 := kB.cell 1
        have bx2 := kB.cell 2
        have bx3 := kB.cell 3
        have bx4 := kB.cell 4
        have bx5 := kB.cell 5
        have bx6 := kB.cell 6
        have kC := BC.out.under AC16.out BC.out.lt
        have cx0 := kC.cell 0
        have cx1 := kC.cell 1
        have cx2 := kC.cell 2
        have cx3 := kC.cell 3
        have cx4 := kC.cell 4
        have cx5 := kC.cell 5
        have cx6 := kC.cell 6
        have kX := BX.out.under AC16.out BX.out.lt
        have xx0 := kX.cell 0
        have xx1 := kX.cell 1
        have xx2 := kX.cell 2
        have xx3 := kX.cell 3
        have xx4 := kX.cell 4
        have xx5 := kX.cell 5
        have xx6 := kX.cell 6
        have kU := BU.out.under AC16.out BU.out.lt
        have ux0 := kU.cell 0
        have ux1 := kU.cell 1
        have ux2 := kU.cell 2
        have ux3 := kU.cell 3
        have ux4 := kU.cell 4
        have ux5 := kU.cell 5
        have ux6 := kU.cell 6
        have kY := BY.out.under AC16.out BY.out.lt
        have yx0 := kY.cell 0
        have yx1 := kY.cell 1
        have yx2 := kY.cell 2
        have yx3 := kY.cell 3
        have yx4 := kY.cell 4
        have yx5 := kY.cell 5
        have yx6 := kY.cell 6
        simp at ax0 ax1 ax2 ax3 ax4 ax5 ax6 bx0 bx1 bx2 bx3 bx4 bx5 bx6 cx0 cx1 cx2 cx3 cx4 cx5 cx6 xx0 xx1 xx2 xx3 xx4 xx5 xx6 ux0 ux1 ux2 ux3 ux4 ux5 ux6 yx0 yx1 yx2 yx3 yx4 yx5 yx6
        have lA := kA.lt
        have lB := kB.lt
        have lC := kC.lt
        have lX := kX.lt
        have lU := kU.lt
        have lY := kY.lt
        clear kA kB kC kX kU kY
        cases v3
        · go_wp2_with fail
          go_meet
          exact ⟨rfl, AC16.out⟩
        · go_wp2_with fail
          refine (sub_plain c b _ _ V4w.heap.size w16 (TC.out.under AC16.out) (TB.out.under AC16.out) AC16.out.size Pc.out Pb.out v4 V4.out).mono ?_
          rintro e w17 ⟨rfl, hb⟩
          clear ax0 ax1 ax2 ax3 ax4 ax5 ax6 bx0 bx1 bx2 bx3 bx4 bx5 bx6 cx0 cx1 cx2 cx3 cx4 cx5 cx6 xx0 xx1 xx2 xx3 xx4 xx5 xx6 ux0 ux1 ux2 ux3 ux4 ux5 ux6 yx0 yx1 yx2 yx3 yx4 yx5 yx6 lA lB lC lX lU lY
          have AC17 := Lib.hid (AC16.out.trans (hb.mono AC16.out.size))
          clear hb
          have kA := BA.out.under AC17.out BA.out.lt
          have ax0 := kA.cell 0
          have ax1 := kA.cell 1
          have ax2 := kA.cell 2
          have ax3 := kA.cell 3
          have ax4 := kA.cell 4
          have ax5 := kA.cell 5
          have ax6 := kA.cell 6
          have kB := BB.out.under AC17.out BB.out.lt
          have bx0 := kB.cell 0
          have bx1 := kB.cell 1
          have bx2 := kB.cell 2
          have bx3 := kB.cell 3
          have bx4 := kB.cell 4
          have bx5 := kB.cell 5
          have bx6 := kB.cell 6
          have kC := BC.out.under AC17.out BC.out.lt
          have cx0 := kC.cell 0
          have cx1 := kC.cell 1
          have cx2 := kC.cell 2
          have cx3 := kC.cell 3
          have cx4 := kC.cell 4
          have cx5 := kC.cell 5
          have cx6 := kC.cell 6
          have kX := BX.out.under AC17.out BX.out.lt
          have xx0 := kX.cell 0
          have xx1 := kX.cell 1
          have xx2 := kX.cell 2
          have xx3 := kX.cell 3
          have xx4 := kX.cell 4
          have xx5 := kX.cell 5
          have xx6 := kX.cell 6
          have kU := BU.out.under AC17.out BU.out.lt
          have ux0 := kU.cell 0
          have ux1 := kU.cell 1
          have ux2 := kU.cell 2
          have ux3 := kU.cell 3
          have ux4 := kU.cell 4
          have ux5 := kU.cell 5
          have ux6 := kU.cell 6
          have kY := BY.out.under AC17.out BY.out.lt
          have yx0 := kY.cell 0
          have yx1 := kY.cell 1
          have yx2 := kY.cell 2
          have yx3 := kY.cell 3
          have yx4 := kY.cell 4
          have yx5 := kY.cell 5
          have yx6 := kY.cell 6
          simp at ax0 ax1 ax2 ax3 ax4 ax5 ax6 bx0 bx1 bx2 bx3 bx4 bx5 bx6 cx0 cx1 cx2 cx3 cx4 cx5 cx6 xx0 xx1 xx2 xx3 xx4 xx5 xx6 ux0 ux1 ux2 ux3 ux4 ux5 ux6 yx0 yx1 yx2 yx3 yx4 yx5 yx6
          have lA := kA.lt
          have lB := kB.lt
          have lC := kC.lt
          have lX := kX.lt
          have lU := kU.lt
          have lY := kY.lt
          clear kA kB kC kX kU kY
          cases v4
          · go_wp2_with fail
            go_meet
            exact ⟨rfl, AC17.out⟩
          · go_wp2_with fail
            refine (sub_plain c Y _ _ V4w.heap.size w17 (TC.out.under AC17.out) (TY.out.under AC17.out) AC17.out.size Pc.out L.out.1 true (L.out.2.2.2 V3.out V4.out)).mono ?_
            rintro e w18 ⟨rfl, hb⟩
            clear ax0 ax1 ax2 ax3 ax4 ax5 ax6 bx0 bx1 bx2 bx3 bx4 bx5 bx6 cx0 cx1 cx2 cx3 cx4 cx5 cx6 xx0 xx1 xx2 xx3 xx4 xx5 xx6 ux0 ux1 ux2 ux3 ux4 ux5 ux6 yx0 yx1 yx2 yx3 yx4 yx5 yx6 lA lB lC lX lU lY
            have AC18 := Lib.hid (AC17.out.trans (hb.mono AC17.out.size))
            clear hb
            have kA := BA.out.under AC18.out BA.out.lt
            have ax0 := kA.cell 0
            have ax1 := kA.cell 1
            have ax2 := kA.cell 2
            have ax3 := kA.cell 3
            have ax4 := kA.cell 4
            have ax5 := kA.cell 5
            have ax6 := kA.cell 6
            have kB := BB.out.under AC18.out BB.out.lt
            have bx0 := kB.cell 0
            have bx1 := kB.cell 1
            have bx2 := kB.cell 2
            have bx3 := kB.cell 3
            have bx4 := kB.cell 4
            have bx5 := kB.cell 5
            have bx6 := kB.cell 6
            have kC := BC.out.under AC18.out BC.out.lt
            have cx0 := kC.cell 0
            have cx1 := kC.cell 1
            have cx2 := kC.cell 2
            have cx3 := kC.cell 3
            have cx4 := kC.cell 4
            have cx5 := kC.cell 5
            have cx6 := kC.cell 6
            have kX := BX.out.under AC18.out BX.out.lt
            have xx0 := kX.cell 0
            have xx1 := kX.cell 1
            have xx2 := kX.cell 2
            have xx3 := kX.cell 3
            have xx4 := kX.cell 4
            have xx5 := kX.cell 5
            have xx6 := kX.cell 6
            have kU := BU.out.under AC18.out BU.out.lt
            have ux0 := kU.cell 0
            have ux1 := kU.cell 1
            have ux2 := kU.cell 2
            have ux3 := kU.cell 3
            have ux4 := kU.cell 4
            have ux5 := kU.cell 5
            have ux6 := kU.cell 6
            have kY := BY.out.under AC18.out BY.out.lt
            have yx0 := kY.cell 0
            have yx1 := kY.cell 1
            have yx2 := kY.cell 2
            have yx3 := kY.cell 3
            have yx4 := kY.cell 4
            have yx5 := kY.cell 5
            have yx6 := kY.cell 6
            simp at ax0 ax1 ax2 ax3 ax4 ax5 ax6 bx0 bx1 bx2 bx3 bx4 bx5 bx6 cx0 cx1 cx2 cx3 cx4 cx5 cx6 xx0 xx1 xx2 xx3 xx4 xx5 xx6 ux0 ux1 ux2 ux3 ux4 ux5 ux6 yx0 yx1 yx2 yx3 yx4 yx5 yx6
            have lA := kA.lt
            have lB := kB.lt
            have lC := kC.lt
            have lX := kX.lt
            have lU := kU.lt
            have lY := kY.lt
            clear kA kB kC kX kU kY
            go_wp2_with fail
            go_meet
            exact ⟨rfl, AC18.out⟩
    case rest =>
      obtain ⟨rfl, hcb⟩ := hcut
      clear ax0 ax1 ax2 ax3 ax4 ax5 ax6 bx0 bx1 bx2 bx3 bx4 bx5 bx6 cx0 cx1 cx2 cx3 cx4 cx5 cx6 xx0 xx1 xx2 xx3 xx4 xx5 xx6 ux0 ux1 ux2 ux3 ux4 ux5 ux6 yx0 yx1 yx2 yx3 yx4 yx5 yx6 lA lB lC lX lU lY
      have AE := Lib.hid hcb
      clear hcb
      have kA := BA.out.under AE.out BA.out.lt
      have ax0 := kA.cell 0
      have ax1 := kA.cell 1
      have ax2 := kA.cell 2
      have ax3 := kA.cell 3
      have ax4 := kA.cell 4
      have ax5 := kA.cell 5
      have ax6 := kA.cell 6
      have kB := BB.out.under AE.out BB.out.lt
      have bx0 := kB.cell 0
      have bx1 := kB.cell 1
      have bx2 := kB.cell 2
      have bx3 := kB.cell 3
      have bx4 := kB.cell 4
      have bx5 := kB.cell 5
      have bx6 := kB.cell 6
      have kC := BC.out.under AE.out BC.out.lt
      have cx0 := kC.cell 0
      have cx1 := kC.cell 1
      have cx2 := kC.cell 2
      have cx3 := kC.cell 3
      have cx4 := kC.cell 4
      have cx5 := kC.cell 5
      have cx6 := kC.cell 6
      have kX := BX.out.under AE.out BX.out.lt
      have xx0 := kX.cell 0
      have xx1 := kX.cell 1
      have xx2 := kX.cell 2
      have xx3 := kX.cell 3
      have xx4 := kX.cell 4
      have xx5 := kX.cell 5
      have xx6 := kX.cell 6
      have kU := BU.out.under AE.out BU.out.lt
      have ux0 := kU.cell 0
      have ux1 := kU.cell 1
      have ux2 := kU.cell 2
      have ux3 := kU.cell 3
      have ux4 := kU.cell 4
      have ux5 := kU.cell 5
      have ux6 := kU.cell 6
      have kY := BY.out.under AE.out BY.out.lt
      have yx0 := kY.cell 0
      have yx1 := kY.cell 1
      have yx2 := kY.cell 2
      have yx3 := kY.cell 3
      have yx4 := kY.cell 4
      have yx5 := kY.cell 5
      have yx6 := kY.cell 6
      simp at ax0 ax1 ax2 ax3 ax4 ax5 ax6 bx0 bx1 bx2 bx3 bx4 bx5 bx6 cx0 cx1 cx2 cx3 cx4 cx5 cx6 xx0 xx1 xx2 xx3 xx4 xx5 xx6 ux0 ux1 ux2 ux3 ux4 ux5 ux6 yx0 yx1 yx2 yx3 yx4 yx5 yx6
      have lA := kA.lt
      have lB := kB.lt
      have lC := kC.lt
      have lX := kX.lt
      have lU := kU.lt
      have lY := kY.lt
      clear kA kB kC kX kU kY
      go_wp2_with fail
      refine (sub_plain a b _ _ V4w.heap.size wc (TA.out.under AE.out) (TB.out.under AE.out) AE.out.size Pa.out Pb.out v5 V5.out).mono ?_
      rintro e w19 ⟨rfl, hb⟩
      clear ax0 ax1 ax2 ax3 ax4 ax5 ax6 bx0 bx1 bx2 bx3 bx4 bx5 bx6 cx0 cx1 cx2 cx3 cx4 cx5 cx6 xx0 xx1 xx2 xx3 xx4 xx5 xx6 ux0 ux1 ux2 ux3 ux4 ux5 ux6 yx0 yx1 yx2 yx3 yx4 yx5 yx6 lA lB lC lX lU lY
      have AC19 := Lib.hid (AE.out.trans (hb.mono AE.out.size))
      clear hb
      have kA := BA.out.under AC19.out BA.out.lt
      have ax0 := kA.cell 0
      have ax1 := kA.cell 1
      have ax2 := kA.cell 2
      have ax3 := kA.cell 3
      have ax4 := kA.cell 4
      have ax5 := kA.cell 5
      have ax6 := kA.cell 6
      have kB := BB.out.under AC19.out BB.out.lt
      have bx0 := kB.cell 0
      have bx1 := kB.cell 1
      have bx2 := kB.cell 2
      have bx3 := kB.cell 3
      have bx4 := kB.cell 4
      have bx5 := kB.cell 5
      have bx6 := kB.cell 6
      have kC := BC.out.under AC19.out BC.out.lt
      have cx0 := kC.cell 0
      have cx1 := kC.cell 1
      have cx2 := kC.cell 2
      have cx3 := kC.cell 3
      have cx4 := kC.cell 4
      have cx5 := kC.cell 5
      have cx6 := kC.cell 6
      have kX := BX.out.under AC19.out BX.out.lt
      have xx0 := kX.cell 0
      have xx1 := kX.cell 1
      have xx2 := kX.cell 2
      have xx3 := kX.cell 3
      have xx4 := kX.cell 4
      have xx5 := kX.cell 5
      have xx6 := kX.cell 6
      have kU := BU.out.under AC19.out BU.out.lt
      have ux0 := kU.cell 0
      have ux1 := kU.cell 1
      have ux2 := kU.cell 2
      have ux3 := kU.cell 3
      have ux4 := kU.cell 4
      have ux5 := kU.cell 5
      have ux6 := kU.cell 6
      have kY := BY.out.under AC19.out BY.out.lt
      have yx0 := kY.cell 0
      have yx1 := kY.cell 1
      have yx2 := kY.cell 2
      have yx3 := kY.cell 3
      have yx4 := kY.cell 4
      have yx5 := kY.cell 5
      have yx6 := kY.cell 6
      simp at ax0 ax1 ax2 ax3 ax4 ax5 ax6 bx0 bx1 bx2 bx3 bx4 bx5 bx6 cx0 cx1 cx2 cx3 cx4 cx5 cx6 xx0 xx1 xx2 xx3 xx4 xx5 xx6 ux0 ux1 ux2 ux3 ux4 ux5 ux6 yx0 yx1 yx2 yx3 yx4 yx5 yx6
      have lA := kA.lt
      have lB := kB.lt
      have lC := kC.lt
      have lX := kX.lt
      have lU := kU.lt
      have lY := kY.lt
      clear kA kB kC kX kU kY
      cases v5
      · go_wp2_with fail
        go_ret
        exact ⟨rfl, acc0 HBW.out HBW.out.size AC19.out⟩
      · obtain ⟨e1, e2⟩ := LT.out V5.out
        have i1 : is = true := by rw [← HI.out, e1]; rfl
        have i2 : was = true := by rw [← HW.out, e2]; rfl
        have t1 : X = b := by rw [← HX.out, e1]; rfl
        have t2 : Y = a := by rw [← HY.out, e2]; rfl
        have AL1 := Lib.hid ((alike_iff X b).2 t1)
        have AL2 := Lib.hid ((alike_iff Y a).2 t2)
        clear t1 t2 e1 e2
        subst i1 i2
        go_wp2_with fail
        refine (rSame_c X b _ _ V4w.heap.size w19 (TX.out.under AC19.out) (TB.out.under AC19.out) AC19.out.size).mono ?_
        rintro e w20 ⟨rfl, hb⟩
        clear ax0 ax1 ax2 ax3 ax4 ax5 ax6 bx0 bx1 bx2 bx3 bx4 bx5 bx6 cx0 cx1 cx2 cx3 cx4 cx5 cx6 xx0 xx1 xx2 xx3 xx4 xx5 xx6 ux0 ux1 ux2 ux3 ux4 ux5 ux6 yx0 yx1 yx2 yx3 yx4 yx5 yx6 lA lB lC lX lU lY
        have AC20 := Lib.hid (AC19.out.trans (hb.mono AC19.out.size))
        clear hb
        have kA := BA.out.under AC20.out BA.out.lt
        have ax0 := kA.cell 0
        have ax1 := kA.cell 1
        have ax2 := kA.cell 2
        have ax3 := kA.cell 3
        have ax4 := kA.cell 4
        have ax5 := kA.cell 5
        have ax6 := kA.cell 6
        have kB := BB.out.under AC20.out BB.out.lt
        have bx0 := kB.cell 0
        have bx1 := kB.cell 1
        have bx2 := kB.cell 2
        have bx3 := kB.cell 3
        have bx4 := kB.cell 4
        have bx5 := kB.cell 5
        have bx6 := kB.cell 6
        have kC := BC.out.under AC20.out BC.out.lt
        have cx0 := kC.cell 0
        have cx1 := kC.cell 1
        have cx2 := kC.cell 2
        have cx3 := kC.cell 3
        have cx4 := kC.cell 4
        have cx5 := kC.cell 5
        have cx6 := kC.cell 6
        have kX := BX.out.under AC20.out BX.out.lt
        have xx0 := kX.cell 0
        have xx1 := kX.cell 1
        have xx2 := kX.cell 2
        have xx3 := kX.cell 3
        have xx4 := kX.cell 4
        have xx5 := kX.cell 5
        have xx6 := kX.cell 6
        have kU := BU.out.under AC20.out BU.out.lt
        have ux0 := kU.cell 0
        have ux1 := kU.cell 1
        have ux2 := kU.cell 2
        have ux3 := kU.cell 3
        have ux4 := kU.cell 4
        have ux5 := kU.cell 5
        have ux6 := kU.cell 6
        have kY := BY.out.under AC20.out BY.out.lt
        have yx0 := kY.cell 0
        have yx1 := kY.cell 1
        have yx2 := kY.cell 2
        have yx3 := kY.cell 3
        have yx4 := kY.cell 4
        have yx5 := kY.cell 5
        have yx6 := kY.cell 6
        simp at ax0 ax1 ax2 ax3 ax4 ax5 ax6 bx0 bx1 bx2 bx3 bx4 bx5 bx6 cx0 cx1 cx2 cx3 cx4 cx5 cx6 xx0 xx1 xx2 xx3 xx4 xx5 xx6 ux0 ux1 ux2 ux3 ux4 ux5 ux6 yx0 yx1 yx2 yx3 yx4 yx5 yx6
        have lA := kA.lt
        have lB := kB.lt
        have lC := kC.lt
        have lX := kX.lt
        have lU := kU.lt
        have lY := kY.lt
        clear kA kB kC kX kU kY
        rw [AL1.out]
        go_wp2_with fail
        refine (rSame_c Y a _ _ V4w.heap.size w20 (TY.out.under AC20.out) (TA.out.under AC20.out) AC20.out.size).mono ?_
        rintro e w21 ⟨rfl, hb⟩
        clear ax0 ax1 ax2 ax3 ax4 ax5 ax6 bx0 bx1 bx2 bx3 bx4 bx5 bx6 cx0 cx1 cx2 cx3 cx4 cx5 cx6 xx0 xx1 xx2 xx3 xx4 xx5 xx6 ux0 ux1 ux2 ux3 ux4 ux5 ux6 yx0 yx1 yx2 yx3 yx4 yx5 yx6 lA lB lC lX lU lY
        have AC21 := Lib.hid (AC20.out.trans (hb.mono AC20.out.size))
        clear hb
        have kA := BA.out.under AC21.out BA.out.lt
        have ax0 := kA.cell 0
        have ax1 := kA.cell 1
        have ax2 := kA.cell 2
        have ax3 := kA.cell 3
        have ax4 := kA.cell 4
        have ax5 := kA.cell 5
        have ax6 := kA.cell 6
        have kB := BB.out.under AC21.out BB.out.lt
        have bx0 := kB.cell 0
        have bx1 := kB.cell 1
        have bx2 := kB.cell 2
        have bx3 := kB.cell 3
        have bx4 := kB.cell 4
        have bx5 := kB.cell 5
        have bx6 := kB.cell 6
        have kC := BC.out.under AC21.out BC.out.lt
        have cx0 := kC.cell 0
        have cx1 := kC.cell 1
        have cx2 := kC.cell 2
        have cx3 := kC.cell 3
        have cx4 := kC.cell 4
        have cx5 := kC.cell 5
        have cx6 := kC.cell 6
        have kX := BX.out.under AC21.out BX.out.lt
        have xx0 := kX.cell 0
        have xx1 := kX.cell 1
        have xx2 := kX.cell 2
        have xx3 := kX.cell 3
        have xx4 := kX.cell 4
        have xx5 := kX.cell 5
        have xx6 := kX.cell 6
        have kU := BU.out.under AC21.out BU.out.lt
        have ux0 := kU.cell 0
        have ux1 := kU.cell 1
        have ux2 := kU.cell 2
        have ux3 := kU.cell 3
        have ux4 := kU.cell 4
        have ux5 := kU.cell 5
        have ux6 := kU.cell 6
        have kY := BY.out.under AC21.out BY.out.lt
        have yx0 := kY.cell 0
        have yx1 := kY.cell 1
        have yx2 := kY.cell 2
        have yx3 := kY.cell 3
        have yx4 := kY.cell 4
        have yx5 := kY.cell 5
        have yx6 := kY.cell 6
        simp at ax0 ax1 ax2 ax3 ax4 ax5 ax6 bx0 bx1 bx2 bx3 bx4 bx5 bx6 cx0 cx1 cx2 cx3 cx4 cx5 cx6 xx0 xx1 xx2 xx3 xx4 xx5 xx6 ux0 ux1 ux2 ux3 ux4 ux5 ux6 yx0 yx1 yx2 yx3 yx4 yx5 yx6
        have lA := kA.lt
        have lB := kB.lt
        have lC := kC.lt
        have lX := kX.lt
        have lU := kU.lt
        have lY := kY.lt
        clear kA kB kC kX kU kY
        rw [AL2.out]
        go_wp2_with fail
        go_ret
        exact ⟨rfl, acc0 HBW.out HBW.out.size AC21.out⟩
end Go.Proofs.Ytalpmjmifcofeaa
