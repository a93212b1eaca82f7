/- The contracts of semver.PrintRange and of semver.ParseRange; premises: strconv's table as laid; a text of less than 4294967281 bytes, the library's number MaxLen reads as some int. -/
import Derived.Test.YtlpgkldialmofaaGreatDoorRngC
import Derived.Test.YtlpgkldialmofaaGreatDoorLawVB
namespace Go.Proofs.YtlpgkldialmofaaGreatDoor
open Go.RowKit
set_option linter.unusedSimpArgs false
set_option linter.unusedVariables false
/-- a range's text as Go's string -/
def rngS (a1 a2 a3 b1 b2 b3 : Int) : ByteArray := verS a1 a2 a3 ++ { data := #[46, 46] } ++ verS b1 b2 b3
def prR (a1 a2 a3 b1 b2 b3 : Int) : ByteArray := if rangeB a1 a2 a3 b1 b2 b3 then rngS a1 a2 a3 b1 b2 b3 else { data := #[] }
def prRE (a1 a2 a3 b1 b2 b3 : Int) : Int := if rangeB a1 a2 a3 b1 b2 b3 then 0 else 1
theorem range_may {a1 a2 a3 b1 b2 b3 : Int} (h : rangeB a1 a2 a3 b1 b2 b3 = true) : mayB a1 a2 a3 = true ∧ mayB b1 b2 b3 = true := by
  simp [rangeB] at h
  exact ⟨h.1, h.2.1⟩
theorem put6_full {w : World} {g : Nat} {T : TypeId} {a0 a1 a2 a3 a4 a5 : Value} (v0 v1 v2 v3 v4 v5 : Value) (h : Blk w g #[a0, a1, a2, a3, a4, a5] T) :
    Blk ((((((w.setCell ⟨g, 0, none⟩ v0).setCell ⟨g, 1, none⟩ v1).setCell ⟨g, 2, none⟩ v2).setCell ⟨g, 3, none⟩ v3).setCell ⟨g, 4, none⟩ v4).setCell ⟨g, 5, none⟩ v5) g #[v0, v1, v2, v3, v4, v5] T := by
  have := (((((h.set 0 v0).set 1 v1).set 2 v2).set 3 v3).set 4 v4).set 5 v5
  simpa using this
theorem put6_bel {w w1 : World} {B g : Nat} (v0 v1 v2 v3 v4 v5 : Value) (h : Below B w w1) (hg : B ≤ g) : Below B w ((((((w1.setCell ⟨g, 0, none⟩ v0).setCell ⟨g, 1, none⟩ v1).setCell ⟨g, 2, none⟩ v2).setCell ⟨g, 3, none⟩ v3).setCell ⟨g, 4, none⟩ v4).setCell ⟨g, 5, none⟩ v5) :=
  (((((h.setCell (p := ⟨g, 0, none⟩) hg v0).setCell (p := ⟨g, 1, none⟩) hg v1).setCell (p := ⟨g, 2, none⟩) hg v2).setCell (p := ⟨g, 3, none⟩) hg v3).setCell (p := ⟨g, 4, none⟩) hg v4).setCell (p := ⟨g, 5, none⟩) hg v5
/-- may two versions be a range's -/
def okR (x y : Int × Int × Int) : Bool := rangeB x.1 x.2.1 x.2.2 y.1 y.2.1 y.2.2
def parR (l : List UInt8) : (Int × Int × Int) × (Int × Int × Int) := (rangeF okR l).getD ((0, 0, 0), (0, 0, 0))
def parRE (l : List UInt8) : Int := if (rangeF okR l).isSome then 0 else 2
theorem par_none {l : List UInt8} (h : parseF l = none) : parV l = (0, 0, 0) ∧ parE l = 2 := by rw [parV, parE, h]; exact ⟨rfl, rfl⟩
theorem par_some {l : List UInt8} {v : Int × Int × Int} (h : parseF l = some v) : parV l = v ∧ parE l = 0 := by rw [parV, parE, h]; exact ⟨rfl, rfl⟩
theorem cut_len (l : List UInt8) : (Lib.cut l [46, 46]).1.length ≤ l.length ∧ (Lib.cut l [46, 46]).2.1.length ≤ l.length := by
  unfold Lib.cut
  split
  · simp
    exact Nat.min_le_right _ _
  · simp
set_option maxRecDepth 100000 in
set_option maxHeartbeats 8000000 in
theorem parseR_c (s : ByteArray) (w : World) (hs : s.size < 4294967281) (hm : MaxW w) : Calls Tryz.prog 36 #[.string s] w fun e w' => e = .returned (.tuple #[.agg (rng (parR s.data.toList).1.1 (parR s.data.toList).1.2.1 (parR s.data.toList).1.2.2 (parR s.data.toList).2.1 (parR s.data.toList).2.2.1 (parR s.data.toList).2.2.2), errV (parRE s.data.toList)]) ∧ Below w.heap.size w w' := by
  obtain ⟨R, hR⟩ : ∃ R, parR s.data.toList = R := ⟨_, rfl⟩
  obtain ⟨E, hE⟩ : ∃ R, parRE s.data.toList = R := ⟨_, rfl⟩
  have hlen := cut_len s.data.toList
  rw [len_dataV] at hlen
  obtain ⟨p, hp⟩ : ∃ p, (Lib.cut s.data.toList [46, 46]).1 = p := ⟨_, rfl⟩
  obtain ⟨q, hq⟩ : ∃ p, (Lib.cut s.data.toList [46, 46]).2.1 = p := ⟨_, rfl⟩
  obtain ⟨f, hf⟩ : ∃ p, (Lib.cut s.data.toList [46, 46]).2.2 = p := ⟨_, rfl⟩
  have hcut := fun w hm => cut_c s { data := #[46, 46] } w hs hm
  have hdd : ({ data := #[46, 46] } : ByteArray).data.toList = [46, 46] := rfl
  simp only [hdd, hp, hq, hf] at hcut
  have hrf : rangeF okR s.data.toList = bothO okR (parseF p) (parseF q) := by unfold rangeF; rw [hp, hq]
  rw [hp, hq] at hlen
  have sp : (ba p).size < 4294967281 := by rw [ba_size]; omega
  have sq : (ba q).size < 4294967281 := by rw [ba_size]; omega
  have C1 := fun w hm => parse_c (ba p) w sp hm
  have C2 := fun w hm => parse_c (ba q) w sq hm
  simp only [ba_data] at C1 C2
  rw [hR, hE]
  have HR : Hid (R = (rangeF okR s.data.toList).getD ((0, 0, 0), (0, 0, 0)) ∧ E = if (rangeF okR s.data.toList).isSome then 0 else 2) := Lib.hid ⟨by rw [← hR]; rfl, by rw [← hE]; rfl⟩
  have HRF := Lib.hid hrf
  have HCUT := Lib.hid hcut
  have HMX := Lib.hid hm
  clear hR hE hlen hp hq hf hdd hcut hrf sp sq hm
  go_enter Tryz.func36, Tryz.ntmps36
  go_upto_region 1 with fail
  have x0 := Blk.new w #[.int .i64 0, .int .i64 0, .int .i64 0, .int .i64 0, .int .i64 0, .int .i64 0] 39
  have xb := (Below.refl w.heap.size w).alloc (Nat.le_refl _) (.cells #[.int .i64 0, .int .i64 0, .int .i64 0, .int .i64 0, .int .i64 0, .int .i64 0] 39)
  generalize (w.alloc (.cells #[.int .i64 0, .int .i64 0, .int .i64 0, .int .i64 0, .int .i64 0, .int .i64 0] 39)) = W at x0 xb ⊢
  have HM0 := Lib.hid (HMX.out.below xb)
  have BX := Lib.hid x0
  have A0 := Lib.hid xb
  clear x0 xb
  go_upto_region 2 with (go_at_call 60; refine (HCUT.out _ HM0.out).mono ?_; rintro e w1 ⟨rfl, hb⟩; have A1 := Lib.hid (acc0 A0.out A0.out.size hb); have BX1 := Lib.hid (BX.out.under hb BX.out.lt); have HM1 := Lib.hid (HM0.out.below hb); clear hb)
  rw [show (⟨p.toArray⟩ : ByteArray) = ba p from rfl, show (⟨q.toArray⟩ : ByteArray) = ba q from rfl]
  cases hp : parseF p with
  | none =>
    have hv := par_none hp
    have hr := HRF.out
    rw [hp] at hr
    simp only [bothO] at hr
    have hre := HR.out
    rw [hr] at hre
    obtain ⟨rfl, rfl⟩ : R = ((0, 0, 0), (0, 0, 0)) ∧ E = 2 := ⟨hre.1, hre.2⟩
    simp only [hv.1, hv.2, errV_2, ver] at C1
    have H1 := Lib.hid C1
    clear C1 C2 hr hre hv hp
    go_upto_region 3 with (go_at_call 13; refine (H1.out _ HM1.out).mono ?_; rintro e w2 ⟨rfl, hb⟩; have A2 := Lib.hid (acc0 A1.out A1.out.size hb); have BX2 := Lib.hid (BX1.out.under hb BX1.out.lt); have HM2 := Lib.hid (HM1.out.below hb); clear hb)
    have B1 := Lib.hid (Blk.new w2 #[.int .i64 0, .int .i64 0, .int .i64 0] 24)
    have A3 := Lib.hid (A2.out.alloc A2.out.size (.cells #[.int .i64 0, .int .i64 0, .int .i64 0] 24))
    have BX3 := Lib.hid (BX2.out.alloc (.cells #[.int .i64 0, .int .i64 0, .int .i64 0] 24))
    have HM3 := Lib.hid (HM2.out.below ((Below.refl w2.heap.size w2).alloc (Nat.le_refl _) (.cells #[.int .i64 0, .int .i64 0, .int .i64 0] 24)))
    generalize hw3 : w2.alloc (.cells #[.int .i64 0, .int .i64 0, .int .i64 0] 24) = w3 at A3 BX3 HM3 B1 ⊢
    clear hw3
    generalize w2.heap.size = B1b at B1 ⊢
    obtain ⟨k0, k1, k2, k3, k4, k5⟩ := cells6 BX3.out
    have lk := BX3.out.lt
    have f0 := BX3.out.free 0
    have f1 := BX3.out.free 1
    have f2 := BX3.out.free 2
    have f3 := BX3.out.free 3
    have f4 := BX3.out.free 4
    have f5 := BX3.out.free 5
    go_wp2_with fail
    have hp := put6_full (.int .i64 0) (.int .i64 0) (.int .i64 0) (.int .i64 0) (.int .i64 0) (.int .i64 0) BX3.out
    have hbp := put6_bel (.int .i64 0) (.int .i64 0) (.int .i64 0) (.int .i64 0) (.int .i64 0) (.int .i64 0) A3.out (Nat.le_refl _)
    generalize ((((((w3.setCell ⟨w.heap.size, 0, none⟩ (.int .i64 0)).setCell ⟨w.heap.size, 1, none⟩ (.int .i64 0)).setCell ⟨w.heap.size, 2, none⟩ (.int .i64 0)).setCell ⟨w.heap.size, 3, none⟩ (.int .i64 0)).setCell ⟨w.heap.size, 4, none⟩ (.int .i64 0)).setCell ⟨w.heap.size, 5, none⟩ (.int .i64 0)) = Wz at hp hbp ⊢
    obtain ⟨r0, r1, r2, r3, r4, r5⟩ := cells6 hp
    refine bodyPost_ret (by simp [results, Tryz.results36, go_sem, r0, r1, r2, r3, r4, r5]; try rfl) rfl ?_
    exact ⟨rfl, hbp⟩
  | some lo =>
    have hv := par_some hp
    simp only [hv.1, hv.2, errV_0, ver] at C1
    have H1 := Lib.hid C1
    clear C1 hv
    obtain ⟨x1, x2, x3⟩ := lo
    simp only at H1
    go_upto_region 3 with (go_at_call 13; refine (H1.out _ HM1.out).mono ?_; rintro e w2 ⟨rfl, hb⟩; have A2 := Lib.hid (acc0 A1.out A1.out.size hb); have BX2 := Lib.hid (BX1.out.under hb BX1.out.lt); have HM2 := Lib.hid (HM1.out.below hb); clear hb)
    have B1 := Lib.hid (Blk.new w2 #[.int .i64 x1, .int .i64 x2, .int .i64 x3] 24)
    have A3 := Lib.hid (A2.out.alloc A2.out.size (.cells #[.int .i64 x1, .int .i64 x2, .int .i64 x3] 24))
    have BX3 := Lib.hid (BX2.out.alloc (.cells #[.int .i64 x1, .int .i64 x2, .int .i64 x3] 24))
    have HM3 := Lib.hid (HM2.out.below ((Below.refl w2.heap.size w2).alloc (Nat.le_refl _) (.cells #[.int .i64 x1, .int .i64 x2, .int .i64 x3] 24)))
    generalize hw3 : w2.alloc (.cells #[.int .i64 x1, .int .i64 x2, .int .i64 x3] 24) = w3 at A3 BX3 HM3 B1 ⊢
    clear hw3
    generalize w2.heap.size = B1b at B1 ⊢
    cases hq : parseF q with
    | none =>
      have hv := par_none hq
      have hr := HRF.out
      rw [hp, hq] at hr
      simp only [bothO] at hr
      have hre := HR.out
      rw [hr] at hre
      obtain ⟨rfl, rfl⟩ : R = ((0, 0, 0), (0, 0, 0)) ∧ E = 2 := ⟨hre.1, hre.2⟩
      simp only [hv.1, hv.2, errV_2, ver] at C2
      have H2 := Lib.hid C2
      clear C2 hr hre hv hp hq
      go_upto_region 6 with (go_at_call 13; refine (H2.out _ HM3.out).mono ?_; rintro e w4 ⟨rfl, hb⟩; have A4 := Lib.hid (acc0 A3.out A3.out.size hb); have BX4 := Lib.hid (BX3.out.under hb BX3.out.lt); have HM4 := Lib.hid (HM3.out.below hb); have B14 := Lib.hid (B1.out.under hb B1.out.lt); clear hb)
      have B2 := Lib.hid (Blk.new w4 #[.int .i64 0, .int .i64 0, .int .i64 0] 24)
      have A5 := Lib.hid (A4.out.alloc A4.out.size (.cells #[.int .i64 0, .int .i64 0, .int .i64 0] 24))
      have BX5 := Lib.hid (BX4.out.alloc (.cells #[.int .i64 0, .int .i64 0, .int .i64 0] 24))
      have HM5 := Lib.hid (HM4.out.below ((Below.refl w4.heap.size w4).alloc (Nat.le_refl _) (.cells #[.int .i64 0, .int .i64 0, .int .i64 0] 24)))
      generalize hw5 : w4.alloc (.cells #[.int .i64 0, .int .i64 0, .int .i64 0] 24) = w5 at A5 BX5 HM5 B2 ⊢
      clear hw5
      generalize w4.heap.size = B2b at B2 ⊢
      obtain ⟨k0, k1, k2, k3, k4, k5⟩ := cells6 BX5.out
      have lk := BX5.out.lt
      have f0 := BX5.out.free 0
      have f1 := BX5.out.free 1
      have f2 := BX5.out.free 2
      have f3 := BX5.out.free 3
      have f4 := BX5.out.free 4
      have f5 := BX5.out.free 5
      go_wp2_with fail
      have hp := put6_full (.int .i64 0) (.int .i64 0) (.int .i64 0) (.int .i64 0) (.int .i64 0) (.int .i64 0) BX5.out
      have hbp := put6_bel (.int .i64 0) (.int .i64 0) (.int .i64 0) (.int .i64 0) (.int .i64 0) (.int .i64 0) A5.out (Nat.le_refl _)
      generalize ((((((w5.setCell ⟨w.heap.size, 0, none⟩ (.int .i64 0)).setCell ⟨w.heap.size, 1, none⟩ (.int .i64 0)).setCell ⟨w.heap.size, 2, none⟩ (.int .i64 0)).setCell ⟨w.heap.size, 3, none⟩ (.int .i64 0)).setCell ⟨w.heap.size, 4, none⟩ (.int .i64 0)).setCell ⟨w.heap.size, 5, none⟩ (.int .i64 0)) = Wz at hp hbp ⊢
      obtain ⟨r0, r1, r2, r3, r4, r5⟩ := cells6 hp
      refine bodyPost_ret (by simp [results, Tryz.results36, go_sem, r0, r1, r2, r3, r4, r5]; try rfl) rfl ?_
      exact ⟨rfl, hbp⟩
    | some hi =>
      have hv := par_some hq
      simp only [hv.1, hv.2, errV_0, ver] at C2
      have H2 := Lib.hid C2
      clear C2 hv
      obtain ⟨y1, y2, y3⟩ := hi
      simp only at H2
      have hr := HRF.out
      rw [hp, hq] at hr
      obtain ⟨m, hmm⟩ : ∃ m, rangeB x1 x2 x3 y1 y2 y3 = m := ⟨_, rfl⟩
      have C3 := fun w => semRange_c x1 x2 x3 y1 y2 y3 w
      have hok : okR (x1, x2, x3) (y1, y2, y3) = m := hmm
      simp only [bothO, hok] at hr
      simp only [hmm, rng] at C3
      have H3 := Lib.hid C3
      have hre := HR.out
      rw [hr] at hre
      have HRE := Lib.hid hre
      clear C3 hr hmm hp hq hre hok
      go_upto_region 6 with (go_at_call 13; refine (H2.out _ HM3.out).mono ?_; rintro e w4 ⟨rfl, hb⟩; have A4 := Lib.hid (acc0 A3.out A3.out.size hb); have BX4 := Lib.hid (BX3.out.under hb BX3.out.lt); have HM4 := Lib.hid (HM3.out.below hb); have B14 := Lib.hid (B1.out.under hb B1.out.lt); clear hb)
      have B2 := Lib.hid (Blk.new w4 #[.int .i64 y1, .int .i64 y2, .int .i64 y3] 24)
      have A5 := Lib.hid (A4.out.alloc A4.out.size (.cells #[.int .i64 y1, .int .i64 y2, .int .i64 y3] 24))
      have BX5 := Lib.hid (BX4.out.alloc (.cells #[.int .i64 y1, .int .i64 y2, .int .i64 y3] 24))
      have HM5 := Lib.hid (HM4.out.below ((Below.refl w4.heap.size w4).alloc (Nat.le_refl _) (.cells #[.int .i64 y1, .int .i64 y2, .int .i64 y3] 24)))
      have B1 := Lib.hid (B14.out.alloc (.cells #[.int .i64 y1, .int .i64 y2, .int .i64 y3] 24))
      generalize hw5 : w4.alloc (.cells #[.int .i64 y1, .int .i64 y2, .int .i64 y3] 24) = w5 at A5 BX5 HM5 B2 B1 ⊢
      clear hw5
      generalize w4.heap.size = B2b at B2 ⊢
      obtain ⟨u0, u1, u2⟩ := cells3 B1.out
      have lu := B1.out.lt
      obtain ⟨t0, t1, t2⟩ := cells3 B2.out
      have lt := B2.out.lt
      go_upto_region 9 with fail
      have B3 := Lib.hid (Blk.new w5 #[.int .i64 x1, .int .i64 x2, .int .i64 x3, .int .i64 y1, .int .i64 y2, .int .i64 y3] 39)
      have A6 := Lib.hid (A5.out.alloc A5.out.size (.cells #[.int .i64 x1, .int .i64 x2, .int .i64 x3, .int .i64 y1, .int .i64 y2, .int .i64 y3] 39))
      have BX6 := Lib.hid (BX5.out.alloc (.cells #[.int .i64 x1, .int .i64 x2, .int .i64 x3, .int .i64 y1, .int .i64 y2, .int .i64 y3] 39))
      generalize hw6 : w5.alloc (.cells #[.int .i64 x1, .int .i64 x2, .int .i64 x3, .int .i64 y1, .int .i64 y2, .int .i64 y3] 39) = w6 at A6 BX6 B3 ⊢
      clear hw6 u0 u1 u2 t0 t1 t2 lu lt
      generalize w5.heap.size = b3 at B3 ⊢
      obtain ⟨u0, u1, u2, u3, u4, u5⟩ := cells6 B3.out
      have lu := B3.out.lt
      cases m
      · obtain ⟨rfl, rfl⟩ : R = ((0, 0, 0), (0, 0, 0)) ∧ E = 2 := ⟨HRE.out.1, HRE.out.2⟩
        go_wp2_with (go_at_call 37; refine (H3.out _).mono ?_; rintro e w7 ⟨rfl, hb⟩; have A7 := Lib.hid (acc0 A6.out A6.out.size hb); have BX7 := Lib.hid (BX6.out.under hb BX6.out.lt); have B37 := Lib.hid (B3.out.under hb B3.out.lt); clear hb; clear u0 u1 u2 u3 u4 u5 lu; obtain ⟨k0, k1, k2, k3, k4, k5⟩ := cells6 BX7.out; have lk := BX7.out.lt; have f0 := BX7.out.free 0; have f1 := BX7.out.free 1; have f2 := BX7.out.free 2; have f3 := BX7.out.free 3; have f4 := BX7.out.free 4; have f5 := BX7.out.free 5)
        have hp := put6_full (.int .i64 0) (.int .i64 0) (.int .i64 0) (.int .i64 0) (.int .i64 0) (.int .i64 0) BX7.out
        have hbp := put6_bel (.int .i64 0) (.int .i64 0) (.int .i64 0) (.int .i64 0) (.int .i64 0) (.int .i64 0) A7.out (Nat.le_refl _)
        generalize ((((((w7.setCell ⟨w.heap.size, 0, none⟩ (.int .i64 0)).setCell ⟨w.heap.size, 1, none⟩ (.int .i64 0)).setCell ⟨w.heap.size, 2, none⟩ (.int .i64 0)).setCell ⟨w.heap.size, 3, none⟩ (.int .i64 0)).setCell ⟨w.heap.size, 4, none⟩ (.int .i64 0)).setCell ⟨w.heap.size, 5, none⟩ (.int .i64 0)) = Wz at hp hbp ⊢
        obtain ⟨r0, r1, r2, r3, r4, r5⟩ := cells6 hp
        refine bodyPost_ret (by simp [results, Tryz.results36, go_sem, r0, r1, r2, r3, r4, r5]; try rfl) rfl ?_
        exact ⟨rfl, hbp⟩
      · obtain ⟨rfl, rfl⟩ : R = ((x1, x2, x3), (y1, y2, y3)) ∧ E = 0 := ⟨HRE.out.1, HRE.out.2⟩
        go_wp2_with (go_at_call 37; refine (H3.out _).mono ?_; rintro e w7 ⟨rfl, hb⟩; have A7 := Lib.hid (acc0 A6.out A6.out.size hb); have BX7 := Lib.hid (BX6.out.under hb BX6.out.lt); have B37 := Lib.hid (B3.out.under hb B3.out.lt); clear hb; clear u0 u1 u2 u3 u4 u5 lu; obtain ⟨u0, u1, u2, u3, u4, u5⟩ := cells6 B37.out; have lu := B37.out.lt; obtain ⟨k0, k1, k2, k3, k4, k5⟩ := cells6 BX7.out; have lk := BX7.out.lt; have f0 := BX7.out.free 0; have f1 := BX7.out.free 1; have f2 := BX7.out.free 2; have f3 := BX7.out.free 3; have f4 := BX7.out.free 4; have f5 := BX7.out.free 5)
        have hp := put6_full (.int .i64 x1) (.int .i64 x2) (.int .i64 x3) (.int .i64 y1) (.int .i64 y2) (.int .i64 y3) BX7.out
        have hbp := put6_bel (.int .i64 x1) (.int .i64 x2) (.int .i64 x3) (.int .i64 y1) (.int .i64 y2) (.int .i64 y3) A7.out (Nat.le_refl _)
        generalize ((((((w7.setCell ⟨w.heap.size, 0, none⟩ (.int .i64 x1)).setCell ⟨w.heap.size, 1, none⟩ (.int .i64 x2)).setCell ⟨w.heap.size, 2, none⟩ (.int .i64 x3)).setCell ⟨w.heap.size, 3, none⟩ (.int .i64 y1)).setCell ⟨w.heap.size, 4, none⟩ (.int .i64 y2)).setCell ⟨w.heap.size, 5, none⟩ (.int .i64 y3)) = Wz at hp hbp ⊢
        obtain ⟨r0, r1, r2, r3, r4, r5⟩ := cells6 hp
        refine bodyPost_ret (by simp [results, Tryz.results36, go_sem, r0, r1, r2, r3, r4, r5]; try rfl) rfl ?_
        exact ⟨rfl, hbp⟩
end Go.Proofs.YtlpgkldialmofaaGreatDoor
