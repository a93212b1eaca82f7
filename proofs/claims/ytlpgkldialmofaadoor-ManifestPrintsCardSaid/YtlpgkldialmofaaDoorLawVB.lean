/- merlonlaw01.SemverBack returns true; the premises: a text of less than 4294967281 bytes; the library's number MaxLen reads as some int; strconv's table is as the program lays it. -/
import Derived.Test.YtlpgkldialmofaaDoorLawVT
import Derived.Deep.CutBlock
namespace Go.Proofs.YtlpgkldialmofaaDoor
open Go.RowKit
set_option linter.unusedSimpArgs false
set_option linter.unusedVariables false
theorem par_text {a b c : Int} (h : mayB a b c = true) : parseF (verS a b c).data.toList = some (a, b, c) := by
  have hb := may_bounds h
  rw [verS_data]
  have e : ((a.toNat : Nat) : Int) = a ∧ ((b.toNat : Nat) : Int) = b ∧ ((c.toNat : Nat) : Int) = c := by omega
  have := parse_text (a := a.toNat) (b := b.toNat) (c := c.toNat) (by rw [e.1, e.2.1, e.2.2, okF_may]; exact h)
  rw [e.1, e.2.1, e.2.2] at this
  exact this
theorem par_back {s : ByteArray} {V : Int × Int × Int} (h : parseF s.data.toList = some V) : mayB V.1 V.2.1 V.2.2 = true ∧ verS V.1 V.2.1 V.2.2 = s := by
  obtain ⟨h1, h2⟩ := text_parse h
  rw [okF_may] at h1
  refine ⟨h1, ?_⟩
  apply ByteArray.ext
  apply Array.toList_inj.mp
  rw [verS_data, ← h2]
theorem verS_size {a b c : Int} (h : mayB a b c = true) : (verS a b c).size ≤ 29 := by
  have hb := may_bounds h
  have h1 := digS_size (n := a) (by omega)
  have h2 := digS_size (n := b) (by omega)
  have h3 := digS_size (n := c) (by omega)
  rw [verS]
  simp only [ByteArray.size_append, point_size]
  omega
/-- what was told before step k -/
def WasAt (a b c x y z : Int) (k : Nat) : Prop := (k ≤ 3 → x = a) ∧ (k ≤ 2 → y = b) ∧ (k ≤ 1 → z = c)
theorem next_some {a b c s : Int} (h : nextE a b c s = 0) : nextV a b c s = stepV a b c s ∧ 1 ≤ s ∧ s ≤ 3 := by
  refine ⟨by rw [nextV, if_pos h], ?_⟩
  unfold nextE at h
  split at h
  · cases h
  · rename_i hn
    simp only [not_or] at hn
    omega
theorem was_step {a b c x y z : Int} {k : Nat} (hw : WasAt a b c x y z k) (h1 : 1 ≤ k) (h3 : k ≤ 3) : cmpV (stepV a b c k).1 (stepV a b c k).2.1 (stepV a b c k).2.2 x y z = 1 ∧ cmpV a b c (stepV a b c k).1 (stepV a b c k).2.1 (stepV a b c k).2.2 = -1 ∧ WasAt a b c (stepV a b c k).1 (stepV a b c k).2.1 (stepV a b c k).2.2 (k + 1) := by
  obtain ⟨h4, h5, h6⟩ := hw
  have c1 : ∀ u : Int, cmpI u u = 0 := fun u => by simp [cmpI]
  have c2 : ∀ u : Int, cmpI (u + 1) u = 1 := fun u => by rw [cmpI, if_neg (by omega), if_pos (by omega)]
  have c3 : ∀ u : Int, cmpI u (u + 1) = -1 := fun u => by rw [cmpI, if_pos (by omega)]
  rcases (show k = 1 ∨ k = 2 ∨ k = 3 by omega) with rfl | rfl | rfl
  · obtain rfl := h4 (by omega)
    obtain rfl := h5 (by omega)
    obtain rfl := h6 (by omega)
    refine ⟨?_, ?_, ?_⟩
    · simp [stepV, cmpV, c1, c2, orI]
    · simp [stepV, cmpV, c1, c3, orI]
    · simp [stepV, WasAt]
  · obtain rfl := h4 (by omega)
    obtain rfl := h5 (by omega)
    refine ⟨?_, ?_, ?_⟩
    · simp [stepV, cmpV, c1, c2, orI]
    · simp [stepV, cmpV, c1, c3, orI]
    · simp [stepV, WasAt]
  · obtain rfl := h4 (by omega)
    refine ⟨?_, ?_, ?_⟩
    · simp [stepV, cmpV, c1, c2, orI]
    · simp [stepV, cmpV, c1, c3, orI]
    · simp [stepV, WasAt]
theorem WasAt.more {a b c x y z : Int} {k : Nat} (h : WasAt a b c x y z k) : WasAt a b c x y z (k + 1) := ⟨fun h' => h.1 (by omega), fun h' => h.2.1 (by omega), fun h' => h.2.2 (by omega)⟩
theorem errV_ne {k : Int} (h : k ≠ 0) : errV k = .iface 31 (.int .i64 k) := by rw [errV, if_neg h]
set_option maxRecDepth 100000 in
set_option maxHeartbeats 16000000 in
theorem back_c (a b c : Int) (s : ByteArray) (w : World) (hs : s.size < 4294967281) (hm : MaxW w) (ht : TabW w) : Calls Tryd.prog 4 #[.agg (ver a b c), .string s] w fun e w' => e = .returned (.bool true) ∧ Below w.heap.size w w' := by
  have HM := Lib.hid hm
  have HT := Lib.hid ht
  clear hm ht
  go_enter Tryd.func4, Tryd.ntmps4
  simp only [ver]
  go_wp2_with fail
  have x0 := Blk.new w #[.int .i64 a, .int .i64 b, .int .i64 c] 23
  have xb := (Below.refl w.heap.size w).alloc (Nat.le_refl _) (.cells #[.int .i64 a, .int .i64 b, .int .i64 c] 23)
  generalize (w.alloc (.cells #[.int .i64 a, .int .i64 b, .int .i64 c] 23)) = W at x0 xb ⊢
  have BA := Lib.hid x0
  have XB := Lib.hid xb
  have HMW := Lib.hid (HM.out.below xb)
  have HTW := Lib.hid (HT.out.below xb)
  clear x0 xb HM HT
  refine (sup_c W HMW.out).mono ?_
  rintro e w1 ⟨rfl, hb⟩
  have A1 := Lib.hid hb
  clear hb
  obtain ⟨ax0, ax1, ax2⟩ := cells3 (BA.out.under A1.out BA.out.lt)
  have lA := (BA.out.under A1.out BA.out.lt).lt
  go_wp2_with fail
  obtain ⟨P, hP⟩ : ∃ P, prS a b c = P := ⟨_, rfl⟩
  obtain ⟨E, hE⟩ : ∃ P, prE a b c = P := ⟨_, rfl⟩
  have hpr := print_c a b c w1 (HTW.out.below A1.out)
  rw [hP, hE] at hpr
  have HP := Lib.hid hP
  have HE := Lib.hid hE
  clear hP hE
  refine hpr.mono ?_
  rintro e w2 ⟨rfl, hb⟩
  have A2 := Lib.hid (A1.out.trans (hb.mono A1.out.size))
  clear hb hpr ax0 ax1 ax2 lA A1
  obtain ⟨m, hm⟩ : ∃ m, mayB a b c = m := ⟨_, rfl⟩
  have HMA := Lib.hid hm
  clear hm
  go_upto_region 3 with fail
  go_cut [7, 25] (fun _ v wx => v = .bool m ∧ w2 = wx)
  case first =>
    cases m
    · have e2 : E = 1 := by rw [← HE.out, prE, HMA.out]; rfl
      subst e2
      rw [errV_1]
      go_wp2_with fail
      go_meet
      exact ⟨rfl, rfl⟩
    · have e2 : E = 0 := by rw [← HE.out, prE, HMA.out]; rfl
      subst e2
      rw [errV_0]
      go_wp2_with fail
      go_meet
      exact ⟨rfl, rfl⟩
  case rest =>
  obtain ⟨rfl, rfl⟩ := hcut
  go_upto_if 25 with fail
  go_cut [6, 25] (fun _ _ wx => Below W.heap.size W wx)
  case first =>
    cases m
    · go_wp2_with fail
      go_meet
      exact A2.out
    have e1 : P = verS a b c := by rw [← HP.out, prS, HMA.out]; rfl
    have hps : P.size < 4294967281 := by have := verS_size HMA.out; rw [e1]; omega
    have hpp : parseF P.data.toList = some (a, b, c) := by rw [e1]; exact par_text HMA.out
    have hpa := parse_c P w2 hps (HMW.out.below A2.out)
    rw [show parV P.data.toList = (a, b, c) by rw [parV, hpp]; rfl, show parE P.data.toList = 0 by rw [parE, hpp]; rfl, errV_0] at hpa
    simp only [ver] at hpa
    have HPA := Lib.hid hpa
    clear hpa hpp hps e1
    go_wp2_with (go_at_call 12; refine HPA.out.mono ?_; rintro e w3 ⟨rfl, hb3⟩; have A3 := Lib.hid (A2.out.trans (hb3.mono A2.out.size)); clear hb3; obtain ⟨ax0, ax1, ax2⟩ := cells3 (BA.out.under A3.out BA.out.lt); have lA := (BA.out.under A3.out BA.out.lt).lt)
    have y0 := (Blk.new (w3.alloc (.cells #[.int .i64 a, .int .i64 b, .int .i64 c] 23)) #[.int .i64 a, .int .i64 b, .int .i64 c] 23)
    have hb4 := (A3.out.alloc A3.out.size (.cells #[.int .i64 a, .int .i64 b, .int .i64 c] 23)).alloc (by have := A3.out.size; simp; omega) (.cells #[.int .i64 a, .int .i64 b, .int .i64 c] 23)
    have hz4 : (w3.alloc (.cells #[.int .i64 a, .int .i64 b, .int .i64 c] 23)).heap.size = w3.heap.size + 1 := by simp
    rw [hz4] at y0
    have hw3 := A3.out.size
    generalize ((w3.alloc (.cells #[.int .i64 a, .int .i64 b, .int .i64 c] 23)).alloc (.cells #[.int .i64 a, .int .i64 b, .int .i64 c] 23)) = W4 at y0 hb4 ⊢
    obtain ⟨bw, hbw⟩ : ∃ n, w3.heap.size + 1 = n := ⟨_, rfl⟩
    rw [hbw] at y0 ⊢
    have hbW : W.heap.size ≤ bw := by omega
    have haW : w.heap.size < bw := by have := BA.out.lt; omega
    clear hz4 hbw hw3 ax0 ax1 ax2 lA A3
    go_loopw [11] (fun kv wr => ∃ (k : Nat) (x y z : Int), kv = .int .i64 k ∧ 1 ≤ k ∧ k ≤ 4 ∧ WasAt a b c x y z k ∧ Blk wr bw #[.int .i64 x, .int .i64 y, .int .i64 z] 23 ∧ Below W.heap.size W wr) (fun kv _ => 4 - (intOf kv).toNat)
    case atStart => exact ⟨1, a, b, c, rfl, by omega, by omega, ⟨fun _ => rfl, fun _ => rfl, fun _ => rfl⟩, y0, hb4⟩
    case round =>
      obtain ⟨k, x, y, z, rfl, hk1, hk4, hwas, hblk, hbel⟩ := hrel
      have HW := Lib.hid hwas
      have BK := Lib.hid hblk
      have A4 := Lib.hid hbel
      clear hwas hblk hbel
      by_cases hk : k ≤ 3
      rotate_left
      · have hkI : ¬ (k : Int) ≤ 3 := by omega
        go_wp2_with fail
        go_meet
        exact A4.out
      have hkI : (k : Int) ≤ 3 := by omega
      obtain ⟨ax0, ax1, ax2⟩ := cells3 (BA.out.under A4.out BA.out.lt)
      have lA := (BA.out.under A4.out BA.out.lt).lt
      obtain ⟨N, hN⟩ : ∃ N, nextV a b c k = N := ⟨_, rfl⟩
      obtain ⟨F, hF⟩ : ∃ N, nextE a b c k = N := ⟨_, rfl⟩
      have hnx := next_c a b c k wr
      rw [hN, hF] at hnx
      have HNX := Lib.hid hnx
      have HN := Lib.hid hN
      have HF := Lib.hid hF
      clear hnx hN hF
      obtain ⟨n1, n2, n3⟩ := N
      simp only [ver] at HNX
      by_cases hf0 : F = 0
      rotate_left
      · rw [errV_ne hf0] at HNX
        have hfB : (F == 0) = false := by simp [hf0]
        clear hf0
        go_wp2_with (go_at_call 14; refine HNX.out.mono ?_; rintro e w5 ⟨rfl, hb5⟩; have A5 := Lib.hid (A4.out.trans (hb5.mono A4.out.size)); have BK5 := Lib.hid (BK.out.under hb5 BK.out.lt); clear hb5 ax0 ax1 ax2 lA)
        exact ⟨⟨k + 1, x, y, z, by go_num, by omega, by omega, HW.out.more, BK5.out.alloc _, A5.out.alloc A5.out.size _⟩, by simp [intOf]; omega⟩
      subst hf0
      rw [errV_0] at HNX
      obtain ⟨hns, -, -⟩ := next_some HF.out
      rw [HN.out] at hns
      have hws := was_step HW.out hk1 hk
      rw [← hns] at hws
      obtain ⟨hc1, hc2, hwn⟩ := hws
      have hcc1 := cmp_c n1 n2 n3 x y z
      have hcc2 := cmp_c a b c n1 n2 n3
      simp only [hc1, ver] at hcc1
      simp only [hc2, ver] at hcc2
      have HC1 := Lib.hid hcc1
      have HC2 := Lib.hid hcc2
      have HWN := Lib.hid hwn
      clear hns hc1 hc2 hwn hcc1 hcc2
      go_upto_region 12 with (go_at_call 14; refine HNX.out.mono ?_; rintro e w5 ⟨rfl, hb5⟩; have A5 := Lib.hid (A4.out.trans (hb5.mono A4.out.size)); have BK5 := Lib.hid (BK.out.under hb5 BK.out.lt); clear hb5 ax0 ax1 ax2 lA)
      have nN := Blk.new w5 #[.int .i64 n1, .int .i64 n2, .int .i64 n3] 23
      have b5 := BK5.out.alloc (.cells #[.int .i64 n1, .int .i64 n2, .int .i64 n3] 23)
      have hb6 := A5.out.alloc A5.out.size (.cells #[.int .i64 n1, .int .i64 n2, .int .i64 n3] 23)
      have h5b : bw < w5.heap.size := BK5.out.lt
      generalize (w5.alloc (.cells #[.int .i64 n1, .int .i64 n2, .int .i64 n3] 23)) = W6 at nN b5 hb6 ⊢
      generalize w5.heap.size = bn at nN h5b ⊢
      have BN := Lib.hid nN
      have BK6 := Lib.hid b5
      have A6 := Lib.hid hb6
      obtain ⟨nx0, nx1, nx2⟩ := cells3 nN
      have lN := nN.lt
      obtain ⟨kx0, kx1, kx2⟩ := cells3 b5
      have lK := b5.lt
      clear nN b5 hb6 A5 BK5
      go_wp2_with (go_at_call 15; first
        | (have h0 := A7; refine (HC2.out _).mono ?_; rintro e w8 ⟨rfl, hb8⟩; have A8 := Lib.hid (A7.out.trans (hb8.mono A7.out.size)); have BK8 := Lib.hid (BK7.out.under hb8 BK7.out.lt); have BN8 := Lib.hid (BN7.out.under hb8 BN7.out.lt); clear hb8 nx0 nx1 nx2 lN ax0 ax1 ax2 lA; obtain ⟨nx0, nx1, nx2⟩ := cells3 BN8.out; have lN := BN8.out.lt; obtain ⟨kx0, kx1, kx2⟩ := cells3 BK8.out; have lK := BK8.out.lt; have f0 := BK8.out.free 0; have f1 := BK8.out.free 1; have f2 := BK8.out.free 2)
        | (refine (HC1.out _).mono ?_; rintro e w7 ⟨rfl, hb7⟩; have A7 := Lib.hid (A6.out.trans (hb7.mono A6.out.size)); have BK7 := Lib.hid (BK6.out.under hb7 BK6.out.lt); have BN7 := Lib.hid (BN.out.under hb7 BN.out.lt); clear hb7 nx0 nx1 nx2 lN kx0 kx1 kx2 lK; obtain ⟨ax0, ax1, ax2⟩ := cells3 (BA.out.under A7.out BA.out.lt); have lA := (BA.out.under A7.out BA.out.lt).lt; obtain ⟨nx0, nx1, nx2⟩ := cells3 BN7.out; have lN := BN7.out.lt))
      have hp := put3_full (.int .i64 n1) (.int .i64 n2) (.int .i64 n3) BK8.out
      have hbp := put3_bel (.int .i64 n1) (.int .i64 n2) (.int .i64 n3) A8.out hbW
      exact ⟨⟨k + 1, n1, n2, n3, by go_num, by omega, by omega, HWN.out, hp, hbp⟩, by simp [intOf]; omega⟩
  case rest =>
  have A5 := Lib.hid hcut
  clear hcut A2
  obtain ⟨V, hV⟩ : ∃ V, parV s.data.toList = V := ⟨_, rfl⟩
  obtain ⟨F, hF⟩ : ∃ V, parE s.data.toList = V := ⟨_, rfl⟩
  have hpa := parse_c s wc hs (HMW.out.below A5.out)
  rw [hV, hF] at hpa
  have HPA := Lib.hid hpa
  have hsome : F = 0 → mayB V.1 V.2.1 V.2.2 = true ∧ verS V.1 V.2.1 V.2.2 = s := by
    intro h
    rw [← hF, parE] at h
    cases hp : parseF s.data.toList with
    | none => rw [hp] at h; cases h
    | some X =>
      have := par_back hp
      rw [← hV, parV, hp]
      exact this
  have HSO := Lib.hid hsome
  clear hpa hV hF hsome
  obtain ⟨V1, V2, V3⟩ := V
  simp only [ver] at HPA
  by_cases hf0 : F = 0
  rotate_left
  · rw [errV_ne hf0] at HPA
    clear hf0
    go_wp2_with (go_at_call 12; refine HPA.out.mono ?_; rintro e w6 ⟨rfl, hb6⟩; have A6 := Lib.hid (A5.out.trans (hb6.mono A5.out.size)); clear hb6)
    go_ret
    exact ⟨rfl, acc0 XB.out XB.out.size (A6.out.alloc A6.out.size _)⟩
  obtain ⟨hmay, hver⟩ := HSO.out hf0
  subst hf0
  rw [errV_0] at HPA
  go_upto_region 17 with (go_at_call 12; refine HPA.out.mono ?_; rintro e w6 ⟨rfl, hb6⟩; have A6 := Lib.hid (A5.out.trans (hb6.mono A5.out.size)); clear hb6)
  have nX := Blk.new w6 #[.int .i64 V1, .int .i64 V2, .int .i64 V3] 23
  have hac := A6.out.alloc A6.out.size (.cells #[.int .i64 V1, .int .i64 V2, .int .i64 V3] 23)
  generalize (w6.alloc (.cells #[.int .i64 V1, .int .i64 V2, .int .i64 V3] 23)) = Z at hac nX ⊢
  generalize w6.heap.size = bX at nX ⊢
  have hpr := print_c V1 V2 V3 Z (HTW.out.below hac)
  rw [show prS V1 V2 V3 = s by rw [prS, hmay]; exact hver, show prE V1 V2 V3 = 0 by rw [prE, hmay]; rfl, errV_0] at hpr
  simp only [ver] at hpr
  have HPR := Lib.hid hpr
  have AZ := Lib.hid hac
  obtain ⟨xx0, xx1, xx2⟩ := cells3 nX
  have lX := nX.lt
  clear hpr hac nX hmay hver HPA HSO
  go_wp2_with (go_at_call 8; refine HPR.out.mono ?_; rintro e w7 ⟨rfl, hb7⟩; have A7 := Lib.hid (AZ.out.trans (hb7.mono AZ.out.size)); clear hb7)
  go_ret
  exact ⟨rfl, acc0 XB.out XB.out.size A7.out⟩
end Go.Proofs.YtlpgkldialmofaaDoor
