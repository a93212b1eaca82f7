/- merlonlaw01.SemverTexts returns true; the premises: a text of less than 4294967281 bytes; the library's number MaxLen reads as some int; strconv's table is as the program lays it. -/
import Derived.Test.YtlpgkldialmofaaDoorUpV
import Derived.Test.YtlpgkldialmofaaDoorRefParV
import Derived.Deep.DeepCutAuto
import Derived.Deep.Cut
import Derived.Laws.StructEq
namespace Go.Proofs.YtlpgkldialmofaaDoor
open Go.RowKit
set_option linter.unusedSimpArgs false
set_option linter.unusedVariables false
theorem neq_err1 (w : World) : (binOp BinOp.neq 26 (.iface 31 (.int .i64 1)) (.iface 31 (.int .i64 1))).run Tryd.prog w = .ok (.bool false) w := by kernel_rfl
theorem errV_0 : errV 0 = .nilIface := rfl
theorem errV_1 : errV 1 = .iface 31 (.int .i64 1) := rfl
theorem errV_2 : errV 2 = .iface 31 (.int .i64 2) := rfl
set_option maxRecDepth 100000 in
set_option maxHeartbeats 8000000 in
theorem texts_c (a b c : Int) (s : ByteArray) (w : World) (hs : s.size < 4294967281) (hm : MaxW w) (ht : TabW w) : Calls Tryd.prog 3 #[.agg (ver a b c), .string s] w fun e w' => e = .returned (.bool true) ∧ Below w.heap.size w w' := by
  have HM := Lib.hid hm
  have HT := Lib.hid ht
  clear hm ht
  go_enter Tryd.func3, Tryd.ntmps3
  simp only [ver]
  go_wp2_with fail
  have x0 := Blk.new w #[.int .i64 a, .int .i64 b, .int .i64 c] 23
  have xb := (Below.refl w.heap.size w).alloc (Nat.le_refl _) (.cells #[.int .i64 a, .int .i64 b, .int .i64 c] 23)
  generalize (w.alloc (.cells #[.int .i64 a, .int .i64 b, .int .i64 c] 23)) = W at x0 xb ⊢
  have BA := Lib.hid x0
  have XB := Lib.hid xb
  have HMW := Lib.hid (HM.out.below xb)
  have HTW := Lib.hid (HT.out.below xb)
  clear x0 xb HM HT
  refine (sup_c W HMW.out).mono ?_
  rintro e w1 ⟨rfl, hb⟩
  have A1 := Lib.hid hb
  clear hb
  obtain ⟨ax0, ax1, ax2⟩ := cells3 (BA.out.under A1.out BA.out.lt)
  have lA := (BA.out.under A1.out BA.out.lt).lt
  go_wp2_with fail
  obtain ⟨P, hP⟩ : ∃ P, prS a b c = P := ⟨_, rfl⟩
  obtain ⟨E, hE⟩ : ∃ P, prE a b c = P := ⟨_, rfl⟩
  have hpr := print_c a b c w1 (HTW.out.below A1.out)
  rw [hP, hE] at hpr
  have HP := Lib.hid hP
  have HE := Lib.hid hE
  clear hP hE
  refine hpr.mono ?_
  rintro e w2 ⟨rfl, hb⟩
  have A2 := Lib.hid (A1.out.trans (hb.mono A1.out.size))
  clear hb hpr ax0 ax1 ax2 lA
  obtain ⟨ax0, ax1, ax2⟩ := cells3 (BA.out.under A2.out BA.out.lt)
  have lA := (BA.out.under A2.out BA.out.lt).lt
  go_wp2_with fail
  refine (refMay_c a b c w2).mono ?_
  rintro e w3 ⟨rfl, hb⟩
  have A3 := Lib.hid (A2.out.trans (hb.mono A2.out.size))
  clear hb ax0 ax1 ax2 lA
  obtain ⟨ax0, ax1, ax2⟩ := cells3 (BA.out.under A3.out BA.out.lt)
  have lA := (BA.out.under A3.out BA.out.lt).lt
  go_upto_region 4 with fail
  go_cut [6, 7, 8, 50] (fun _ _ _ v wx => v = .bool false ∧ Below W.heap.size W wx)
  case first =>
    obtain ⟨m, hm⟩ : ∃ m, mayB a b c = m := ⟨_, rfl⟩
    rw [hm]
    have HMA := Lib.hid hm
    clear hm
    cases m
    · have e1 : P = { data := #[] } := by rw [← HP.out, prS, HMA.out]; rfl
      have e2 : E = 1 := by rw [← HE.out, prE, HMA.out]; rfl
      subst e1 e2
      rw [errV_1]
      have n1 := neq_err1
      go_wp2_with (go_at_call 10; refine (semMay_c a b c _).mono ?_; rintro e w4 ⟨rfl, hb⟩; rw [HMA.out]; have A4 := Lib.hid (A3.out.trans (hb.mono A3.out.size)); clear hb)
      go_meet
      exact ⟨rfl, A4.out⟩
    · have e1 : P = verS a b c := by rw [← HP.out, prS, HMA.out]; rfl
      have e2 : E = 0 := by rw [← HE.out, prE, HMA.out]; rfl
      subst e2
      rw [errV_0]
      have hrp := fun W => refPrint_c a b c W HMA.out
      rw [← e1] at hrp
      have HRP := Lib.hid hrp
      clear hrp e1
      go_wp2_with (first
        | (go_at_call 10; refine (semMay_c a b c _).mono ?_; rintro e w4 ⟨rfl, hb⟩; rw [HMA.out]; have A4 := Lib.hid (A3.out.trans (hb.mono A3.out.size)); clear hb; clear ax0 ax1 ax2 lA; obtain ⟨ax0, ax1, ax2⟩ := cells3 (BA.out.under A4.out BA.out.lt); have lA := (BA.out.under A4.out BA.out.lt).lt)
        | (go_at_call 11; refine (HRP.out _).mono ?_; rintro e w5 ⟨rfl, hb⟩; have A5 := Lib.hid (A4.out.trans (hb.mono A4.out.size)); clear hb))
      go_meet
      exact ⟨rfl, A5.out⟩
  case rest =>
  obtain ⟨rfl, hcb⟩ := hcut
  have A5 := Lib.hid hcb
  clear hcb ax0 ax1 ax2 lA A1 A2 A3
  go_upto_region 6 with fail
  obtain ⟨V, hV⟩ : ∃ V, parV s.data.toList = V := ⟨_, rfl⟩
  obtain ⟨F, hF⟩ : ∃ V, parE s.data.toList = V := ⟨_, rfl⟩
  obtain ⟨O, hO⟩ : ∃ V, (parseF s.data.toList).isSome = V := ⟨_, rfl⟩
  have hpa := parse_c s wc hs (HMW.out.below A5.out)
  have hra := refParse_c s
  rw [hV, hF] at hpa
  simp only [hV, hO] at hra
  have HRA := Lib.hid hra
  have HPA := Lib.hid hpa
  have hfo : F = if O then 0 else 2 := by rw [← hF, ← hO, parE]
  have hvo : O = false → V = (0, 0, 0) := by
    intro h
    rw [← hV, parV]
    rw [← hO] at h
    cases hp : parseF s.data.toList with
    | none => rfl
    | some v => rw [hp] at h; cases h
  have HVO := Lib.hid hvo
  have HFO := Lib.hid hfo
  clear hra hpa hV hF hO hfo hvo
  obtain ⟨V1, V2, V3⟩ := V
  go_wp2_with (go_at_call 12; refine HPA.out.mono ?_; rintro e w6 ⟨rfl, hb6⟩; simp only [ver]; have A6 := Lib.hid (A5.out.trans (hb6.mono A5.out.size)); clear hb6)
  have nX := Blk.new w6 #[.int .i64 V1, .int .i64 V2, .int .i64 V3] 23
  have hac := A6.out.alloc A6.out.size (.cells #[.int .i64 V1, .int .i64 V2, .int .i64 V3] 23)
  generalize (w6.alloc (.cells #[.int .i64 V1, .int .i64 V2, .int .i64 V3] 23)) = Z at hac nX ⊢
  generalize w6.heap.size = bX at nX ⊢
  have BX := Lib.hid nX
  have AZ := Lib.hid hac
  clear nX hac
  refine (HRA.out Z).mono ?_
  rintro e w7 ⟨rfl, hb7⟩
  simp only [ver]
  go_upto_region 8 with fail
  have nY := Blk.new w7 #[.int .i64 V1, .int .i64 V2, .int .i64 V3] 23
  have nX := (BX.out.under hb7 BX.out.lt).alloc (.cells #[.int .i64 V1, .int .i64 V2, .int .i64 V3] 23)
  have h7 := AZ.out.trans (hb7.mono AZ.out.size)
  have hac := h7.alloc h7.size (.cells #[.int .i64 V1, .int .i64 V2, .int .i64 V3] 23)
  generalize (w7.alloc (.cells #[.int .i64 V1, .int .i64 V2, .int .i64 V3] 23)) = Y at hac nX nY ⊢
  generalize w7.heap.size = bY at nY ⊢
  have AY := Lib.hid (acc0 XB.out XB.out.size hac)
  obtain ⟨xx0, xx1, xx2⟩ := cells3 nX
  obtain ⟨yy0, yy1, yy2⟩ := cells3 nY
  have lX := nX.lt
  have lY := nY.lt
  have n2 := eq_err2
  clear nX nY hac h7 hb7 A5 A6 AZ HPA HRA BX
  cases O
  · have hv := HVO.out rfl
    have hf := HFO.out
    simp at hv hf
    obtain ⟨rfl, rfl, rfl⟩ := hv
    subst hf
    rw [errV_2]
    go_wp2_with fail
    go_ret
    exact ⟨rfl, AY.out⟩
  · have hf := HFO.out
    simp at hf
    subst hf
    rw [errV_0]
    go_wp2_with fail
    go_ret
    exact ⟨rfl, AY.out⟩
end Go.Proofs.YtlpgkldialmofaaDoor
