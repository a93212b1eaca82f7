/- merlonlaw14.ManifestPrints returns true; the premises: the deps lie as DepsAt says; lengths that every value has; the library's number MaxLen reads as some int; strconv's table is as the program lays it. -/
import Derived.Test.YtlpgkldialmofaaDoorUpM
import Derived.Test.YtlpgkldialmofaaDoorLawVT
namespace Go.Proofs.YtlpgkldialmofaaDoor
open Go.RowKit
set_option linter.unusedSimpArgs false
set_option linter.unusedVariables false
set_option maxRecDepth 100000 in
set_option maxHeartbeats 8000000 in
theorem mup_c (w : World) (hm : MaxW w) : Calls Tryd.prog 22 #[] w fun e w' => e = .returned (.bool true) ∧ Below w.heap.size w w' := by
  have HM := Lib.hid hm
  clear hm
  go_enter Tryd.func22, Tryd.ntmps22
  have hn := man1 w HM.out
  simp only [up1, manV] at hn
  go_wp2_with fail
  refine hn.mono ?_
  rintro e w1 ⟨A, cap, rfl, hd, hb1⟩
  have HD := Lib.hid hd
  clear hn hd
  go_upto_region 2 with fail
  have hx := Blk.new w1 #[.string { data := #[112] }, .int .i64 1, .int .i64 0, .int .i64 0, .slice A 1 cap] 49
  have hb := hb1.alloc hb1.size (.cells #[.string { data := #[112] }, .int .i64 1, .int .i64 0, .int .i64 0, .slice A 1 cap] 49)
  have hbd := (Below.refl w1.heap.size w1).alloc (Nat.le_refl _) (.cells #[.string { data := #[112] }, .int .i64 1, .int .i64 0, .int .i64 0, .slice A 1 cap] 49)
  have HD1 := Lib.hid (HD.out.under hbd (Nat.le_refl _))
  clear hbd
  generalize (w1.alloc (.cells #[.string { data := #[112] }, .int .i64 1, .int .i64 0, .int .i64 0, .slice A 1 cap] 49)) = Y at hx hb HD1 ⊢
  generalize w1.heap.size = bx at hx ⊢
  have hp := man2 Y (HM.out.below hb)
  simp only [up2, manZ] at hp
  go_wp2_with fail
  refine hp.mono ?_
  rintro e w2 ⟨rfl, hb2⟩
  clear hp
  have hbb := acc0 hb hb.size hb2
  obtain ⟨x0, x1, x2, x3, x4⟩ := cells5 (hx.under hb2 hx.lt)
  have lx := (hx.under hb2 hx.lt).lt
  have hD2 := HD1.out.under hb2 (Nat.le_refl _)
  have hacc := hbb.alloc hbb.size (.cells #[.string { data := #[] }, .int .i64 0, .int .i64 0, .int .i64 0, .slice none 0 0] 49)
  have he := eq_err2 (w2.alloc (.cells #[.string { data := #[] }, .int .i64 0, .int .i64 0, .int .i64 0, .slice none 0 0] 49))
  rcases hD2 with hD2 | ⟨b, o, rfl, hbl, hc⟩
  · cases hD2
  have hc5 := hc 0 (by decide) 5 (by decide)
  simp [depV] at hc5
  clear hb1 hx hb hb2 hc
  go_wp2_with fail
  go_ret
  exact ⟨rfl, hacc⟩
set_option maxRecDepth 100000 in
set_option maxHeartbeats 8000000 in
theorem manPrints_c (p : ByteArray) (v1 v2 v3 : Int) (A : Option Addr) (cap : Nat) (ds : List Dp) (w : World) (hd : DepsAt w A ds) (hl : ds.length ≤ maxLen) (hp : p.size ≤ maxLen) (hs : ∀ d ∈ ds, d.1.size ≤ maxLen) (hm : MaxW w) (ht : TabW w) :
    Calls Tryd.prog 6 #[.agg (manV p v1 v2 v3 A ds.length cap)] w fun e w' => e = .returned (.bool true) ∧ Below w.heap.size w w' := by
  have HM := Lib.hid hm
  have HT := Lib.hid ht
  have HD := Lib.hid hd
  have HS := Lib.hid hs
  clear hm ht hd hs
  go_enter Tryd.func6, Tryd.ntmps6
  simp only [manV]
  go_wp2_with fail
  have x0 := Blk.new w #[.string p, .int .i64 v1, .int .i64 v2, .int .i64 v3, .slice A ds.length cap] 49
  have xb := (Below.refl w.heap.size w).alloc (Nat.le_refl _) (.cells #[.string p, .int .i64 v1, .int .i64 v2, .int .i64 v3, .slice A ds.length cap] 49)
  generalize (w.alloc (.cells #[.string p, .int .i64 v1, .int .i64 v2, .int .i64 v3, .slice A ds.length cap] 49)) = W at x0 xb ⊢
  have BA := Lib.hid x0
  have XB := Lib.hid xb
  have HMW := Lib.hid (HM.out.below xb)
  have HTW := Lib.hid (HT.out.below xb)
  have HDW := Lib.hid (HD.out.under xb (Nat.le_refl _))
  clear x0 xb HM HT HD
  refine (mup_c W HMW.out).mono ?_
  rintro e w1 ⟨rfl, hb⟩
  have A1 := Lib.hid hb
  clear hb
  have B1 := Lib.hid (BA.out.under A1.out BA.out.lt)
  have D1 := Lib.hid (HDW.out.under A1.out (Nat.le_refl _))
  obtain ⟨n0, n1, n2, n3, n4⟩ := cells5 B1.out
  have lA := B1.out.lt
  by_cases hbig : (100 : Int) < (ds.length : Int)
  · go_wp2_with fail
    go_ret
    exact ⟨rfl, XB.out.trans (A1.out.mono XB.out.size)⟩
  obtain ⟨m, hm⟩ : ∃ m, mayM p (v1, v2, v3) ds = m := ⟨_, rfl⟩
  have hpr := fun w hd ht => manPrint_c p v1 v2 v3 A cap ds w hd hl hp HS.out ht
  have hrm := fun w hd => refManMay_c p v1 v2 v3 A cap ds w hd hl hp HS.out
  have hmm := fun w hd => manMay_c p v1 v2 v3 A cap ds w hd hl hp HS.out
  simp only [prM, prME, hm, manV] at hpr hrm hmm
  have HRM := Lib.hid hrm
  have HMM := Lib.hid hmm
  clear hrm hmm
  cases m
  · simp only [Bool.false_eq_true, if_false, errV_1] at hpr
    have HPR := Lib.hid hpr
    clear hpr
    have he := eq_err1
    go_wp2_with (first
      | (go_at_call 23; refine (HPR.out _ D1.out (HTW.out.below A1.out)).mono ?_; rintro e w2 ⟨rfl, hb⟩; have A2 := Lib.hid (A1.out.trans (hb.mono A1.out.size)); have B2 := Lib.hid (B1.out.under hb B1.out.lt); have D2 := Lib.hid (D1.out.under hb (Nat.le_refl _)); clear hb n0 n1 n2 n3 n4 lA; obtain ⟨n0, n1, n2, n3, n4⟩ := cells5 B2.out; have lA := B2.out.lt)
      | (go_at_call 24; refine (HRM.out _ D2.out).mono ?_; rintro e w3 ⟨rfl, hb⟩; have A3 := Lib.hid (A2.out.trans (hb.mono A2.out.size)); have B3 := Lib.hid (B2.out.under hb B2.out.lt); have D3 := Lib.hid (D2.out.under hb (Nat.le_refl _)); clear hb n0 n1 n2 n3 n4 lA; obtain ⟨n0, n1, n2, n3, n4⟩ := cells5 B3.out; have lA := B3.out.lt)
      | (go_at_call 25; refine (HMM.out _ D3.out).mono ?_; rintro e w4 ⟨rfl, hb⟩; have A4 := Lib.hid (A3.out.trans (hb.mono A3.out.size)); have he := eq_err1 w4; clear hb n0 n1 n2 n3 n4 lA))
    go_ret
    exact ⟨rfl, XB.out.trans (A4.out.mono XB.out.size)⟩
  · simp only [if_true, errV_0] at hpr
    have hrp := fun w hd => refManPrint_c p v1 v2 v3 A cap ds w hd hl hm
    simp only [manV] at hrp
    obtain ⟨T, hT⟩ : ∃ T, textK p (verS v1 v2 v3) ds ds.length = T := ⟨_, rfl⟩
    simp only [hT] at hpr hrp
    have HPR := Lib.hid hpr
    have HRP := Lib.hid hrp
    clear hpr hrp hT
    go_wp2_with (first
      | (go_at_call 23; refine (HPR.out _ D1.out (HTW.out.below A1.out)).mono ?_; rintro e w2 ⟨rfl, hb⟩; have A2 := Lib.hid (A1.out.trans (hb.mono A1.out.size)); have B2 := Lib.hid (B1.out.under hb B1.out.lt); have D2 := Lib.hid (D1.out.under hb (Nat.le_refl _)); clear hb n0 n1 n2 n3 n4 lA; obtain ⟨n0, n1, n2, n3, n4⟩ := cells5 B2.out; have lA := B2.out.lt)
      | (go_at_call 24; refine (HRM.out _ D2.out).mono ?_; rintro e w3 ⟨rfl, hb⟩; have A3 := Lib.hid (A2.out.trans (hb.mono A2.out.size)); have B3 := Lib.hid (B2.out.under hb B2.out.lt); have D3 := Lib.hid (D2.out.under hb (Nat.le_refl _)); clear hb n0 n1 n2 n3 n4 lA; obtain ⟨n0, n1, n2, n3, n4⟩ := cells5 B3.out; have lA := B3.out.lt)
      | (go_at_call 25; refine (HMM.out _ D3.out).mono ?_; rintro e w4 ⟨rfl, hb⟩; have A4 := Lib.hid (A3.out.trans (hb.mono A3.out.size)); have B4 := Lib.hid (B3.out.under hb B3.out.lt); have D4 := Lib.hid (D3.out.under hb (Nat.le_refl _)); clear hb n0 n1 n2 n3 n4 lA; obtain ⟨n0, n1, n2, n3, n4⟩ := cells5 B4.out; have lA := B4.out.lt)
      | (go_at_call 26; refine (HRP.out _ D4.out).mono ?_; rintro e w5 ⟨rfl, hb⟩; have A5 := Lib.hid (A4.out.trans (hb.mono A4.out.size)); clear hb n0 n1 n2 n3 n4 lA))
    go_ret
    exact ⟨rfl, XB.out.trans (A5.out.mono XB.out.size)⟩
end Go.Proofs.YtlpgkldialmofaaDoor
