/- merlonlaw01.SemverOrders returns true; the premise: the library's number MaxLen reads as some int. -/
import Derived.Test.YtbaoinofpiepmaaDoorUpS
import Derived.Deep.DeepCutAuto
import Derived.Deep.Cut
namespace Go.Proofs.YtbaoinofpiepmaaDoor
open Go.RowKit
set_option linter.unusedSimpArgs false
set_option linter.unusedVariables false
theorem cmp_tri (a1 a2 a3 b1 b2 b3 : Int) : (cmpV a1 a2 a3 b1 b2 b3 = -1 ∧ belowB a1 a2 a3 b1 b2 b3 = true ∧ belowB b1 b2 b3 a1 a2 a3 = false) ∨ (cmpV a1 a2 a3 b1 b2 b3 = 0 ∧ belowB a1 a2 a3 b1 b2 b3 = false ∧ belowB b1 b2 b3 a1 a2 a3 = false) ∨ (cmpV a1 a2 a3 b1 b2 b3 = 1 ∧ belowB a1 a2 a3 b1 b2 b3 = false ∧ belowB b1 b2 b3 a1 a2 a3 = true) := by
  have one : ∀ x y : Int, (x < y ∧ cmpI x y = -1) ∨ (x = y ∧ cmpI x y = 0) ∨ (y < x ∧ cmpI x y = 1) := by
    intro x y
    by_cases h : x < y
    · exact .inl ⟨h, by rw [cmpI, if_pos h]⟩
    · by_cases h' : y < x
      · exact .inr (.inr ⟨h', by rw [cmpI, if_neg h, if_pos h']⟩)
      · exact .inr (.inl ⟨by omega, by rw [cmpI, if_neg h, if_neg h']⟩)
  unfold cmpV
  rcases one a1 b1 with ⟨h1, e1⟩ | ⟨h1, e1⟩ | ⟨h1, e1⟩
  · refine .inl ⟨by rw [e1]; simp [orI], ?_, ?_⟩ <;> (unfold belowB; (repeat' split) <;> simp <;> omega)
  · rcases one a2 b2 with ⟨h2, e2⟩ | ⟨h2, e2⟩ | ⟨h2, e2⟩
    · refine .inl ⟨by rw [e1, e2]; simp [orI], ?_, ?_⟩ <;> (unfold belowB; (repeat' split) <;> simp <;> omega)
    · rcases one a3 b3 with ⟨h3, e3⟩ | ⟨h3, e3⟩ | ⟨h3, e3⟩
      · refine .inl ⟨by rw [e1, e2, e3]; simp [orI], ?_, ?_⟩ <;> (unfold belowB; (repeat' split) <;> simp <;> omega)
      · refine .inr (.inl ⟨by rw [e1, e2, e3]; simp [orI], ?_, ?_⟩) <;> (unfold belowB; (repeat' split) <;> simp <;> omega)
      · refine .inr (.inr ⟨by rw [e1, e2, e3]; simp [orI], ?_, ?_⟩) <;> (unfold belowB; (repeat' split) <;> simp <;> omega)
    · refine .inr (.inr ⟨by rw [e1, e2]; simp [orI], ?_, ?_⟩) <;> (unfold belowB; (repeat' split) <;> simp <;> omega)
  · refine .inr (.inr ⟨by rw [e1]; simp [orI], ?_, ?_⟩) <;> (unfold belowB; (repeat' split) <;> simp <;> omega)
set_option maxRecDepth 100000 in
set_option maxHeartbeats 8000000 in
theorem orders_c (a1 a2 a3 b1 b2 b3 s : Int) (w : World) (hm : MaxW w) : Calls Tryd.prog 4 #[.agg (ver a1 a2 a3), .agg (ver b1 b2 b3), .int .i64 s] w fun e w' => e = .returned (.bool true) ∧ Below w.heap.size w w' := by
  have HM := Lib.hid hm
  clear hm
  go_enter Tryd.func4, Tryd.ntmps4
  simp only [ver]
  go_wp2_with fail
  have h2 := two3 w #[.int .i64 a1, .int .i64 a2, .int .i64 a3] #[.int .i64 b1, .int .i64 b2, .int .i64 b3] 35 35
  generalize ((w.alloc (.cells #[.int .i64 a1, .int .i64 a2, .int .i64 a3] 35)).alloc (.cells #[.int .i64 b1, .int .i64 b2, .int .i64 b3] 35)) = W at h2 ⊢
  obtain ⟨x0, x1, xs, xb⟩ := h2
  have BA := Lib.hid x0
  have BB := Lib.hid x1
  have XB := Lib.hid xb
  have HMW := Lib.hid (HM.out.below xb)
  clear x0 x1 xs xb
  refine (sup_c W HMW.out).mono ?_
  rintro e w1 ⟨rfl, hb⟩
  have A1 := Lib.hid hb
  clear hb
  have kA := BA.out.under A1.out BA.out.lt
  obtain ⟨ax0, ax1, ax2⟩ := cells3 kA
  have lA := kA.lt
  have kB := BB.out.under A1.out BB.out.lt
  obtain ⟨bx0, bx1, bx2⟩ := cells3 kB
  have lB := kB.lt
  clear kA kB
  go_wp2_with fail
  refine (cmp_c a1 a2 a3 b1 b2 b3 w1).mono ?_
  rintro e w2 ⟨rfl, hb⟩
  clear ax0 ax1 ax2 bx0 bx1 bx2 lA lB
  have A2 := Lib.hid (A1.out.trans (hb.mono A1.out.size))
  clear hb
  have tri := cmp_tri a1 a2 a3 b1 b2 b3
  obtain ⟨v, hv⟩ : ∃ v, cmpV a1 a2 a3 b1 b2 b3 = v := ⟨_, rfl⟩
  obtain ⟨u, hu⟩ : ∃ v, belowB a1 a2 a3 b1 b2 b3 = v := ⟨_, rfl⟩
  obtain ⟨t, ht⟩ : ∃ v, belowB b1 b2 b3 a1 a2 a3 = v := ⟨_, rfl⟩
  rw [hv, hu, ht] at tri
  rw [hv]
  have HU := Lib.hid hu
  have HT := Lib.hid ht
  have TRI := Lib.hid tri
  clear tri hv hu ht
  have kA := BA.out.under A2.out BA.out.lt
  obtain ⟨ax0, ax1, ax2⟩ := cells3 kA
  have lA := kA.lt
  have kB := BB.out.under A2.out BB.out.lt
  obtain ⟨bx0, bx1, bx2⟩ := cells3 kB
  have lB := kB.lt
  clear kA kB
  go_upto_region 3 with fail
  go_cut [31] (fun s31 wx => s31 = .bool false ∧ Below W.heap.size W wx)
  case first =>
    rcases TRI.out with ⟨rfl, rfl, rfl⟩ | ⟨rfl, rfl, rfl⟩ | ⟨rfl, rfl, rfl⟩
    all_goals
      go_wp2_with fail
      refine (below_c a1 a2 a3 b1 b2 b3 w2).mono ?_
      rintro e w3 ⟨rfl, hb⟩
      clear ax0 ax1 ax2 bx0 bx1 bx2 lA lB
      have A3 := Lib.hid (A2.out.trans (hb.mono A2.out.size))
      clear hb
      rw [HU.out]
      have kA := BA.out.under A3.out BA.out.lt
      obtain ⟨ax0, ax1, ax2⟩ := cells3 kA
      have lA := kA.lt
      have kB := BB.out.under A3.out BB.out.lt
      obtain ⟨bx0, bx1, bx2⟩ := cells3 kB
      have lB := kB.lt
      clear kA kB
      go_wp2_with fail
      refine (below_c b1 b2 b3 a1 a2 a3 w3).mono ?_
      rintro e w4 ⟨rfl, hb⟩
      have A4 := Lib.hid (A3.out.trans (hb.mono A3.out.size))
      clear hb
      rw [HT.out]
      go_wp2_with fail
      go_meet
      exact ⟨rfl, A4.out⟩
  case rest =>
    obtain ⟨rfl, hcb⟩ := hcut
    clear ax0 ax1 ax2 bx0 bx1 bx2 lA lB
    have A5 := Lib.hid hcb
    clear hcb
    have kA := BA.out.under A5.out BA.out.lt
    obtain ⟨ax0, ax1, ax2⟩ := cells3 kA
    have lA := kA.lt
    clear kA
    go_wp2_with fail
    obtain ⟨V, hV⟩ : ∃ V, nextV a1 a2 a3 s = V := ⟨_, rfl⟩
    obtain ⟨E, hE⟩ : ∃ E, nextE a1 a2 a3 s = E := ⟨_, rfl⟩
    have hnx := next_c a1 a2 a3 s wc
    rw [hV, hE] at hnx
    have HV := Lib.hid hV
    have HE := Lib.hid hE
    clear hV hE
    refine hnx.mono ?_
    rintro e w6 ⟨rfl, hb⟩
    clear hnx
    clear ax0 ax1 ax2 lA
    have A6 := Lib.hid (A5.out.trans (hb.mono A5.out.size))
    clear hb
    obtain ⟨V1, V2, V3⟩ := V
    simp only [ver]
    go_upto_region 6 with fail
    have hsz := A6.out.size
    have hacc := A6.out.alloc hsz (.cells #[.int .i64 V1, .int .i64 V2, .int .i64 V3] 35)
    have nA := (BA.out.under A6.out BA.out.lt).alloc (.cells #[.int .i64 V1, .int .i64 V2, .int .i64 V3] 35)
    have nX := Blk.new w6 #[.int .i64 V1, .int .i64 V2, .int .i64 V3] 35
    have hz : (w6.alloc (.cells #[.int .i64 V1, .int .i64 V2, .int .i64 V3] 35)).heap.size = w6.heap.size + 1 := by simp
    generalize hx : w6.heap.size = bX at nX hz hsz ⊢
    generalize (w6.alloc (.cells #[.int .i64 V1, .int .i64 V2, .int .i64 V3] 35)) = Z at hacc nA nX hz ⊢
    have BX := Lib.hid nX
    have XZ := Lib.hid (acc0 XB.out XB.out.size hacc)
    clear BA
    have BA := Lib.hid nA
    clear nA nX hacc hx hsz A1 A2 A5 A6
    have Z0 := Lib.hid (Below.refl Z.heap.size Z)
    have kA := BA.out.under Z0.out BA.out.lt
    obtain ⟨ax0, ax1, ax2⟩ := cells3 kA
    have lA := kA.lt
    clear kA
    go_wp2_with fail
    refine (refMay_c a1 a2 a3 Z).mono ?_
    rintro e z1 ⟨rfl, hb⟩
    clear ax0 ax1 ax2 lA
    have Z1 := Lib.hid hb
    clear hb
    obtain ⟨m, hm⟩ : ∃ m, mayB a1 a2 a3 = m := ⟨_, rfl⟩
    rw [hm]
    have HMA := Lib.hid hm
    clear hm
    have kA := BA.out.under Z1.out BA.out.lt
    obtain ⟨ax0, ax1, ax2⟩ := cells3 kA
    have lA := kA.lt
    have kX := BX.out.under Z1.out BX.out.lt
    obtain ⟨xx0, xx1, xx2⟩ := cells3 kX
    have lX := kX.lt
    clear kA kX
    cases m
    · skip
      have he : E = 1 := by rw [← HE.out, nextE, HMA.out]; simp
      have hv : (V1, V2, V3) = ((0, 0, 0) : Int × Int × Int) := by rw [← HV.out, nextV, HE.out, he]; rfl
      obtain ⟨rfl, rfl, rfl⟩ : V1 = 0 ∧ V2 = 0 ∧ V3 = 0 := by simpa using hv
      subst he
      rw [show errV 1 = .iface 28 (.int .i64 1) from rfl]
      have he1 := eq_err1 z1
      go_wp2_with fail
      go_ret
      exact ⟨rfl, acc0 XZ.out XZ.out.size Z1.out⟩
    by_cases h1 : s < 1
    · skip
      have he : E = 1 := by rw [← HE.out, nextE, HMA.out, if_pos (by simp [h1])]
      have hv : (V1, V2, V3) = ((0, 0, 0) : Int × Int × Int) := by rw [← HV.out, nextV, HE.out, he]; rfl
      obtain ⟨rfl, rfl, rfl⟩ : V1 = 0 ∧ V2 = 0 ∧ V3 = 0 := by simpa using hv
      subst he
      rw [show errV 1 = .iface 28 (.int .i64 1) from rfl]
      have he1 := eq_err1 z1
      go_wp2_with fail
      go_ret
      exact ⟨rfl, acc0 XZ.out XZ.out.size Z1.out⟩
    by_cases h3 : 3 < s
    · skip
      have he : E = 1 := by rw [← HE.out, nextE, HMA.out, if_pos (by simp [h3])]
      have hv : (V1, V2, V3) = ((0, 0, 0) : Int × Int × Int) := by rw [← HV.out, nextV, HE.out, he]; rfl
      obtain ⟨rfl, rfl, rfl⟩ : V1 = 0 ∧ V2 = 0 ∧ V3 = 0 := by simpa using hv
      subst he
      rw [show errV 1 = .iface 28 (.int .i64 1) from rfl]
      have he1 := eq_err1 z1
      go_wp2_with fail
      go_ret
      exact ⟨rfl, acc0 XZ.out XZ.out.size Z1.out⟩
    have hmb := may_bounds HMA.out
    rcases (show s = 1 ∨ s = 2 ∨ s = 3 by omega) with hs | hs | hs
    · skip
      have hk : nextE a1 a2 a3 s = if mayB (a1) (a2) (a3 + 1) = true then 0 else 3 := by rw [nextE, HMA.out, if_neg (by simp; omega)]; simp [stepV, hs]
      have hw : stepV a1 a2 a3 s = (a1, a2, a3 + 1) := by simp [stepV, hs]
      rw [HE.out] at hk
      have HK := Lib.hid hk
      have HWS := Lib.hid hw
      clear hk hw
      subst hs
      go_wp2_with fail
      have hac : Below Z.heap.size Z (z1.alloc (.cells #[.int .i64 a1, .int .i64 a2, .int .i64 (a3 + 1)] 35)) := Z1.out.alloc Z1.out.size (.cells #[.int .i64 a1, .int .i64 a2, .int .i64 (a3 + 1)] 35)
      have hnw : Blk (z1.alloc (.cells #[.int .i64 a1, .int .i64 a2, .int .i64 (a3 + 1)] 35)) z1.heap.size #[.int .i64 (a1), .int .i64 (a2), .int .i64 (a3 + 1)] 35 := Blk.new z1 _ _
      have hnx : Blk (z1.alloc (.cells #[.int .i64 a1, .int .i64 a2, .int .i64 (a3 + 1)] 35)) bX #[.int .i64 V1, .int .i64 V2, .int .i64 V3] 35 := BX.out.under hac BX.out.lt
      generalize (z1.alloc (.cells #[.int .i64 a1, .int .i64 a2, .int .i64 (a3 + 1)] 35)) = Y at hac hnw hnx ⊢
      refine (refMay_c (a1) (a2) (a3 + 1) Y).mono ?_
      rintro e y1 ⟨rfl, hb⟩
      have YB := Lib.hid (hac.trans (hb.mono hac.size))
      obtain ⟨n0, n1, n2⟩ := cells3 (hnw.under hb hnw.lt)
      obtain ⟨m0, m1, m2⟩ := cells3 (hnx.under hb hnx.lt)
      have ln := (hnw.under hb hnw.lt).lt
      have lm := (hnx.under hb hnx.lt).lt
      clear hac hnw hnx hb
      clear ax0 ax1 ax2 xx0 xx1 xx2 lA lX
      cases hf : mayB (a1) (a2) (a3 + 1)
      · skip
        have he : E = 3 := by rw [HK.out, hf]; rfl
        have hv : (V1, V2, V3) = ((0, 0, 0) : Int × Int × Int) := by rw [← HV.out, nextV, HE.out, he]; rfl
        simp only [Prod.mk.injEq] at hv
        obtain ⟨hv1, hv2, hv3⟩ := hv
        subst he hv1 hv2 hv3
        rw [show errV 3 = .iface 28 (.int .i64 3) from rfl]
        have he3 := eq_err3 y1
        go_wp2_with fail
        go_ret
        exact ⟨rfl, acc0 XZ.out XZ.out.size YB.out⟩
      · skip
        have he : E = 0 := by rw [HK.out, hf]; rfl
        have hv : (V1, V2, V3) = ((a1, a2, a3 + 1) : Int × Int × Int) := by rw [← HV.out, nextV, HE.out, he, HWS.out]; rfl
        simp only [Prod.mk.injEq] at hv
        obtain ⟨hv1, hv2, hv3⟩ := hv
        subst he hv1 hv2 hv3
        rw [show errV 0 = .nilIface from rfl]
        go_wp2_with fail
        go_ret
        exact ⟨rfl, acc0 XZ.out XZ.out.size YB.out⟩
    · skip
      have hk : nextE a1 a2 a3 s = if mayB (a1) (a2 + 1) (0) = true then 0 else 3 := by rw [nextE, HMA.out, if_neg (by simp; omega)]; simp [stepV, hs]
      have hw : stepV a1 a2 a3 s = (a1, a2 + 1, 0) := by simp [stepV, hs]
      rw [HE.out] at hk
      have HK := Lib.hid hk
      have HWS := Lib.hid hw
      clear hk hw
      subst hs
      go_wp2_with fail
      have hac : Below Z.heap.size Z (z1.alloc (.cells #[.int .i64 a1, .int .i64 (a2 + 1), .int .i64 0] 35)) := Z1.out.alloc Z1.out.size (.cells #[.int .i64 a1, .int .i64 (a2 + 1), .int .i64 0] 35)
      have hnw : Blk (z1.alloc (.cells #[.int .i64 a1, .int .i64 (a2 + 1), .int .i64 0] 35)) z1.heap.size #[.int .i64 (a1), .int .i64 (a2 + 1), .int .i64 (0)] 35 := Blk.new z1 _ _
      have hnx : Blk (z1.alloc (.cells #[.int .i64 a1, .int .i64 (a2 + 1), .int .i64 0] 35)) bX #[.int .i64 V1, .int .i64 V2, .int .i64 V3] 35 := BX.out.under hac BX.out.lt
      generalize (z1.alloc (.cells #[.int .i64 a1, .int .i64 (a2 + 1), .int .i64 0] 35)) = Y at hac hnw hnx ⊢
      refine (refMay_c (a1) (a2 + 1) (0) Y).mono ?_
      rintro e y1 ⟨rfl, hb⟩
      have YB := Lib.hid (hac.trans (hb.mono hac.size))
      obtain ⟨n0, n1, n2⟩ := cells3 (hnw.under hb hnw.lt)
      obtain ⟨m0, m1, m2⟩ := cells3 (hnx.under hb hnx.lt)
      have ln := (hnw.under hb hnw.lt).lt
      have lm := (hnx.under hb hnx.lt).lt
      clear hac hnw hnx hb
      clear ax0 ax1 ax2 xx0 xx1 xx2 lA lX
      cases hf : mayB (a1) (a2 + 1) (0)
      · skip
        have he : E = 3 := by rw [HK.out, hf]; rfl
        have hv : (V1, V2, V3) = ((0, 0, 0) : Int × Int × Int) := by rw [← HV.out, nextV, HE.out, he]; rfl
        simp only [Prod.mk.injEq] at hv
        obtain ⟨hv1, hv2, hv3⟩ := hv
        subst he hv1 hv2 hv3
        rw [show errV 3 = .iface 28 (.int .i64 3) from rfl]
        have he3 := eq_err3 y1
        go_wp2_with fail
        go_ret
        exact ⟨rfl, acc0 XZ.out XZ.out.size YB.out⟩
      · skip
        have he : E = 0 := by rw [HK.out, hf]; rfl
        have hv : (V1, V2, V3) = ((a1, a2 + 1, 0) : Int × Int × Int) := by rw [← HV.out, nextV, HE.out, he, HWS.out]; rfl
        simp only [Prod.mk.injEq] at hv
        obtain ⟨hv1, hv2, hv3⟩ := hv
        subst he hv1 hv2 hv3
        rw [show errV 0 = .nilIface from rfl]
        go_wp2_with fail
        go_ret
        exact ⟨rfl, acc0 XZ.out XZ.out.size YB.out⟩
    · skip
      have hk : nextE a1 a2 a3 s = if mayB (a1 + 1) (0) (0) = true then 0 else 3 := by rw [nextE, HMA.out, if_neg (by simp; omega)]; simp [stepV, hs]
      have hw : stepV a1 a2 a3 s = (a1 + 1, 0, 0) := by simp [stepV, hs]
      rw [HE.out] at hk
      have HK := Lib.hid hk
      have HWS := Lib.hid hw
      clear hk hw
      subst hs
      go_wp2_with fail
      have hac : Below Z.heap.size Z (z1.alloc (.cells #[.int .i64 (a1 + 1), .int .i64 0, .int .i64 0] 35)) := Z1.out.alloc Z1.out.size (.cells #[.int .i64 (a1 + 1), .int .i64 0, .int .i64 0] 35)
      have hnw : Blk (z1.alloc (.cells #[.int .i64 (a1 + 1), .int .i64 0, .int .i64 0] 35)) z1.heap.size #[.int .i64 (a1 + 1), .int .i64 (0), .int .i64 (0)] 35 := Blk.new z1 _ _
      have hnx : Blk (z1.alloc (.cells #[.int .i64 (a1 + 1), .int .i64 0, .int .i64 0] 35)) bX #[.int .i64 V1, .int .i64 V2, .int .i64 V3] 35 := BX.out.under hac BX.out.lt
      generalize (z1.alloc (.cells #[.int .i64 (a1 + 1), .int .i64 0, .int .i64 0] 35)) = Y at hac hnw hnx ⊢
      refine (refMay_c (a1 + 1) (0) (0) Y).mono ?_
      rintro e y1 ⟨rfl, hb⟩
      have YB := Lib.hid (hac.trans (hb.mono hac.size))
      obtain ⟨n0, n1, n2⟩ := cells3 (hnw.under hb hnw.lt)
      obtain ⟨m0, m1, m2⟩ := cells3 (hnx.under hb hnx.lt)
      have ln := (hnw.under hb hnw.lt).lt
      have lm := (hnx.under hb hnx.lt).lt
      clear hac hnw hnx hb
      clear ax0 ax1 ax2 xx0 xx1 xx2 lA lX
      cases hf : mayB (a1 + 1) (0) (0)
      · skip
        have he : E = 3 := by rw [HK.out, hf]; rfl
        have hv : (V1, V2, V3) = ((0, 0, 0) : Int × Int × Int) := by rw [← HV.out, nextV, HE.out, he]; rfl
        simp only [Prod.mk.injEq] at hv
        obtain ⟨hv1, hv2, hv3⟩ := hv
        subst he hv1 hv2 hv3
        rw [show errV 3 = .iface 28 (.int .i64 3) from rfl]
        have he3 := eq_err3 y1
        go_wp2_with fail
        go_ret
        exact ⟨rfl, acc0 XZ.out XZ.out.size YB.out⟩
      · skip
        have he : E = 0 := by rw [HK.out, hf]; rfl
        have hv : (V1, V2, V3) = ((a1 + 1, 0, 0) : Int × Int × Int) := by rw [← HV.out, nextV, HE.out, he, HWS.out]; rfl
        simp only [Prod.mk.injEq] at hv
        obtain ⟨hv1, hv2, hv3⟩ := hv
        subst he hv1 hv2 hv3
        rw [show errV 0 = .nilIface from rfl]
        go_wp2_with fail
        go_ret
        exact ⟨rfl, acc0 XZ.out XZ.out.size YB.out⟩
end Go.Proofs.YtbaoinofpiepmaaDoor
