/- merlonlaw14.ManifestParses returns true; the premises: the library's error type lies where the program lays it; the library's number MaxLen reads as some int. -/
import Derived.Test.YtlpgkldialmofaaGreatDoorLawMP
import Derived.Test.YtlpgkldialmofaaGreatDoorRfPar
import Derived.Test.YtlpgkldialmofaaGreatDoorSameM
import Derived.Test.YtlpgkldialmofaaGreatDoorToldC
namespace Go.Proofs.YtlpgkldialmofaaGreatDoor
open Go.RowKit
set_option linter.unusedSimpArgs false
set_option linter.unusedVariables false
theorem RL.three (w : World) : (binOp .eql 29 (.iface 32 (.int .i64 3)) (.iface 32 (.int .i64 3))).run Tryz.prog w = .ok (.bool true) w := by kernel_rfl
set_option maxRecDepth 100000 in
theorem manLarge_c (s : ByteArray) (w : World) (hs : 20000 < s.size) : Calls Tryz.prog 5 #[.string s] w fun e w' => e = .returned (.tuple #[.agg manZ, .iface 32 (.int .i64 3)]) ∧ Below w.heap.size w w' := by
  go_enter Tryz.func5, Tryz.ntmps5
  go_upto_region 1 with fail
  have x0 := Blk.new w #[.string { data := #[] }, .int .i64 0, .int .i64 0, .int .i64 0, .slice none 0 0] 27
  have xb := (Below.refl w.heap.size w).alloc (Nat.le_refl _) (.cells #[.string { data := #[] }, .int .i64 0, .int .i64 0, .int .i64 0, .slice none 0 0] 27)
  generalize (w.alloc (.cells #[.string { data := #[] }, .int .i64 0, .int .i64 0, .int .i64 0, .slice none 0 0] 27)) = W at x0 xb ⊢
  obtain ⟨k0, k1, k2, k3, k4⟩ := cells5 x0
  have f0 := x0.free 0
  have f1 := x0.free 1
  have f2 := x0.free 2
  have f3 := x0.free 3
  have f4 := x0.free 4
  have lz := x0.lt
  have BZ := Lib.hid x0
  have XB := Lib.hid xb
  clear x0 xb
  go_wp2_with (go_at_call 9; refine (tokens_large s _ hs).mono ?_; rintro e w1 ⟨rfl, rfl⟩)
  have hp := put5_full (.string { data := #[] }) (.int .i64 0) (.int .i64 0) (.int .i64 0) (.slice none 0 0) BZ.out
  have hbp := put5_bel (.string { data := #[] }) (.int .i64 0) (.int .i64 0) (.int .i64 0) (.slice none 0 0) XB.out (Nat.le_refl _)
  generalize (((((W.setCell ⟨w.heap.size, 0, none⟩ (.string { data := #[] })).setCell ⟨w.heap.size, 1, none⟩ (.int .i64 0)).setCell ⟨w.heap.size, 2, none⟩ (.int .i64 0)).setCell ⟨w.heap.size, 3, none⟩ (.int .i64 0)).setCell ⟨w.heap.size, 4, none⟩ (.slice none 0 0)) = Wz at hp hbp ⊢
  obtain ⟨r0, r1, r2, r3, r4⟩ := cells5 hp
  refine bodyPost_ret (by simp [results, Tryz.results5, go_sem, r0, r1, r2, r3, r4]; try rfl) rfl ?_
  exact ⟨rfl, hbp⟩
theorem zeroSame_c (w : World) : Calls Tryz.prog 6 #[.agg #[.string { data := #[] }, .int .i64 0, .int .i64 0, .int .i64 0, .slice none 0 0], .agg #[.string { data := #[] }, .int .i64 0, .int .i64 0, .int .i64 0, .slice none 0 0]] w fun e w' => e = .returned (.bool true) ∧ Below w.heap.size w w' :=
  manSame_c { data := #[] } 0 0 0 none none 0 0 [] w (.inl rfl) (.inl rfl) (by simp)
theorem scan_len (s : ByteArray) : ∀ (f k : Nat) (ts : List Tok), (scan s f k ts).1.length ≤ ts.length + f
  | 0, _, ts => Nat.le_refl _
  | f + 1, k, ts => by
    rw [scan]
    split
    · split
      · show ts.length ≤ _; omega
      · have := scan_len s f (k + ‹Nat›) ts; omega
      · rename_i kd n hst
        have := scan_len s f (k + n) (ts ++ [⟨kd + 1, k, s.extract k (k + n)⟩])
        simp at this; omega
    · show ts.length ≤ _; omega
theorem scanAll_len {s : ByteArray} {ts : List Tok} {o : Option Nat} (h : scanAll s = (ts, o)) : ts.length ≤ s.size := by
  have := scan_len s s.size 0 []
  rw [show scan s s.size 0 [] = (ts, o) from h] at this
  simpa using this
theorem manF_size {ts : List ByteArray} {p : ByteArray} {v : Int × Int × Int} {ds : List Dp} (h : refM ts = some (p, v, ds)) : ds.length ≤ ts.length := by
  rw [refM] at h
  split at h
  · injection h with h
    injection h with h1 h2
    injection h2 with h2 h3
    subst h3
    rw [depsR_len]
    omega
  · cases h
set_option maxRecDepth 100000 in
set_option maxHeartbeats 8000000 in
theorem manParses_c (s : ByteArray) (w : World) (hg : HandleAt w) (hm : MaxW w) : Calls Tryz.prog 3 #[.string s] w fun e w' => e = .returned (.bool true) ∧ Below w.heap.size w w' := by
  have l3 := RL.three
  have HM := Lib.hid hm
  have HG := Lib.hid hg
  clear hm hg
  by_cases hs : s.size ≤ 20000
  rotate_left
  · have hsI : (20000 : Int) < (s.size : Int) := by omega
    have hL := fun w => manLarge_c s w (by omega)
    simp only [manZ] at hL
    have HL := Lib.hid hL
    clear hL
    go_enter Tryz.func3, Tryz.ntmps3
    go_upto_region 2 with (go_at_call 4; refine (mup_c _ HM.out).mono ?_; rintro e w1 ⟨rfl, hb1⟩)
    go_upto_region 3 with (go_at_call 5; refine (HL.out _).mono ?_; rintro e w2 ⟨rfl, hb2⟩)
    have x0 := Blk.new w2 #[.string { data := #[] }, .int .i64 0, .int .i64 0, .int .i64 0, .slice none 0 0] 27
    have xb := (hb1.trans (hb2.mono hb1.size)).alloc (by have := hb1.size; have := hb2.size; omega) (.cells #[.string { data := #[] }, .int .i64 0, .int .i64 0, .int .i64 0, .slice none 0 0] 27)
    generalize (w2.alloc (.cells #[.string { data := #[] }, .int .i64 0, .int .i64 0, .int .i64 0, .slice none 0 0] 27)) = W at x0 xb ⊢
    generalize w2.heap.size = g at x0 ⊢
    obtain ⟨k0, k1, k2, k3, k4⟩ := cells5 x0
    have lz := x0.lt
    have XB := Lib.hid xb
    clear x0 xb hb1 hb2
    go_wp2_with (go_at_call 6; refine (zeroSame_c _).mono ?_; rintro e w3 ⟨rfl, hb3⟩)
    go_ret
    exact ⟨rfl, XB.out.trans (hb3.mono XB.out.size)⟩
  have hsI : ¬ (20000 : Int) < (s.size : Int) := by omega
  go_enter Tryz.func3, Tryz.ntmps3
  go_upto_region 2 with (go_at_call 4; refine (mup_c _ HM.out).mono ?_; rintro e w1 ⟨rfl, hb1⟩)
  have A1 := Lib.hid hb1
  have HM1 := Lib.hid (HM.out.below hb1)
  have HG1 := Lib.hid (HG.out.under hb1)
  clear hb1
  go_wp2_with fail
  refine (manParse_c s w1 hs HM1.out).mono ?_
  rintro e w2 ⟨hb2, hans⟩
  have A2 := Lib.hid (A1.out.trans (hb2.mono A1.out.size))
  have HG2 := Lib.hid (HG1.out.under hb2)
  clear hb2
  rcases hans with ⟨ts, k, b, hsc, rfl, hbb, hblk⟩ | ⟨ts, hsc, hF, rfl⟩ | ⟨ts, p, v, ds, A, cap, hsc, hF, rfl, hdp⟩
  · have HSC := Lib.hid hsc
    have HBK := Lib.hid hblk
    clear hsc hblk hbb
    simp only [manZ]
    go_upto_region 3 with fail
    have x0 := Blk.new w2 #[.string { data := #[] }, .int .i64 0, .int .i64 0, .int .i64 0, .slice none 0 0] 27
    have hbx := (Below.refl w2.heap.size w2).alloc (Nat.le_refl _) (.cells #[.string { data := #[] }, .int .i64 0, .int .i64 0, .int .i64 0, .slice none 0 0] 27)
    have A3 := Lib.hid (A2.out.trans (hbx.mono A2.out.size))
    have HG3 := Lib.hid (HG2.out.under hbx)
    have HBK3 := Lib.hid (HBK.out.under hbx HBK.out.lt)
    clear hbx
    generalize (w2.alloc (.cells #[.string { data := #[] }, .int .i64 0, .int .i64 0, .int .i64 0, .slice none 0 0] 27)) = W at x0 A3 HG3 HBK3 ⊢
    generalize w2.heap.size = g at x0 ⊢
    have X0 := Lib.hid x0
    clear x0
    go_wp2_with fail
    refine (refManParse_c s _ hs).mono ?_
    rintro e w4 ⟨hb4, hans⟩
    rcases hans with ⟨ts2, k2, hsc2, rfl⟩ | ⟨ts2, hsc2, -⟩ | ⟨ts2, p, v, ds, A, cap, hsc2, -⟩
    rotate_left
    · rw [HSC.out] at hsc2; injection hsc2 with h1 h2; cases h2
    · rw [HSC.out] at hsc2; injection hsc2 with h1 h2; cases h2
    rw [HSC.out] at hsc2
    injection hsc2 with h1 h2
    injection h2 with h2
    subst h1 h2
    have A4 := Lib.hid (A3.out.trans (hb4.mono A3.out.size))
    have HG4 := Lib.hid (HG3.out.under hb4)
    have HBK4 := Lib.hid (HBK3.out.under hb4 HBK3.out.lt)
    have X4 := Lib.hid (X0.out.under hb4 X0.out.lt)
    clear hb4
    simp only [manZ]
    have hbz := (Below.refl w4.heap.size w4).alloc (Nat.le_refl _) (.cells #[.string { data := #[] }, .int .i64 0, .int .i64 0, .int .i64 0, .slice none 0 0] 27)
    have A5 := Lib.hid (A4.out.trans (hbz.mono A4.out.size))
    have HG5 := Lib.hid (HG4.out.under hbz)
    have HBK5 := Lib.hid (HBK4.out.under hbz HBK4.out.lt)
    have X5 := Lib.hid (X4.out.under hbz X4.out.lt)
    clear hbz
    go_upto_region 6 with fail
    generalize (w4.alloc (.cells #[.string { data := #[] }, .int .i64 0, .int .i64 0, .int .i64 0, .slice none 0 0] 27)) = w5 at A5 HG5 HBK5 X5 ⊢
    go_wp2_with (first
      | (go_at_call 8; refine (toldSpot_c b _ _ HG5.out HBK5.out).mono ?_; rintro e w6 ⟨rfl, hb6⟩; have A6 := Lib.hid (A5.out.trans (hb6.mono A5.out.size)); obtain ⟨k0, k1, k2, k3, k4⟩ := cells5 (X5.out.under hb6 X5.out.lt); have lz := (X5.out.under hb6 X5.out.lt).lt; clear hb6)
      | (go_at_call 6; refine (zeroSame_c _).mono ?_; rintro e w7 ⟨rfl, hb7⟩))
    go_ret
    exact ⟨rfl, A6.out.trans (hb7.mono A6.out.size)⟩
  · have HSC := Lib.hid hsc
    have hR : refM (ts.map Tok.text) = none := by rw [← man_ref (texts_homo hsc)]; exact hF
    have HR := Lib.hid hR
    clear hsc hF hR
    simp only [manZ]
    go_upto_region 3 with fail
    have x0 := Blk.new w2 #[.string { data := #[] }, .int .i64 0, .int .i64 0, .int .i64 0, .slice none 0 0] 27
    have hbx := (Below.refl w2.heap.size w2).alloc (Nat.le_refl _) (.cells #[.string { data := #[] }, .int .i64 0, .int .i64 0, .int .i64 0, .slice none 0 0] 27)
    have A3 := Lib.hid (A2.out.trans (hbx.mono A2.out.size))
    clear hbx
    generalize (w2.alloc (.cells #[.string { data := #[] }, .int .i64 0, .int .i64 0, .int .i64 0, .slice none 0 0] 27)) = W at x0 A3 ⊢
    generalize w2.heap.size = g at x0 ⊢
    have X0 := Lib.hid x0
    clear x0
    go_wp2_with fail
    refine (refManParse_c s _ hs).mono ?_
    rintro e w4 ⟨hb4, hans⟩
    rcases hans with ⟨ts2, k2, hsc2, -⟩ | ⟨ts2, hsc2, -, rfl⟩ | ⟨ts2, p, v, ds, A, cap, hsc2, hR2, -⟩
    · rw [HSC.out] at hsc2; injection hsc2 with h1 h2; cases h2
    rotate_left
    · rw [HSC.out] at hsc2; injection hsc2 with h1 h2; subst h1; rw [HR.out] at hR2; cases hR2
    have A4 := Lib.hid (A3.out.trans (hb4.mono A3.out.size))
    have X4 := Lib.hid (X0.out.under hb4 X0.out.lt)
    clear hb4 hsc2
    simp only [manZ]
    have hbz := (Below.refl w4.heap.size w4).alloc (Nat.le_refl _) (.cells #[.string { data := #[] }, .int .i64 0, .int .i64 0, .int .i64 0, .slice none 0 0] 27)
    have A5 := Lib.hid (A4.out.trans (hbz.mono A4.out.size))
    have X5 := Lib.hid (X4.out.under hbz X4.out.lt)
    clear hbz
    go_upto_region 6 with fail
    generalize (w4.alloc (.cells #[.string { data := #[] }, .int .i64 0, .int .i64 0, .int .i64 0, .slice none 0 0] 27)) = w5 at A5 X5 ⊢
    obtain ⟨k0, k1, k2, k3, k4⟩ := cells5 X5.out
    have lz := X5.out.lt
    go_wp2_with (first
      | (go_at_call 8; refine (told2_c _).mono ?_; rintro e w6 ⟨rfl, rfl⟩)
      | (go_at_call 6; refine (zeroSame_c _).mono ?_; rintro e w7 ⟨rfl, hb7⟩))
    go_ret
    exact ⟨rfl, A5.out.trans (hb7.mono A5.out.size)⟩
  · have HSC := Lib.hid hsc
    have hR : refM (ts.map Tok.text) = some (p, v, ds) := by rw [← man_ref (texts_homo hsc)]; exact hF
    have hdl := manF_size hR
    have HR := Lib.hid hR
    have HD := Lib.hid hdp
    clear hsc hF hR hdp
    obtain ⟨v1, v2, v3⟩ := v
    simp only [manV]
    go_upto_region 3 with fail
    have x0 := Blk.new w2 #[.string p, .int .i64 v1, .int .i64 v2, .int .i64 v3, .slice A ds.length cap] 27
    have hbx := (Below.refl w2.heap.size w2).alloc (Nat.le_refl _) (.cells #[.string p, .int .i64 v1, .int .i64 v2, .int .i64 v3, .slice A ds.length cap] 27)
    have A3 := Lib.hid (A2.out.trans (hbx.mono A2.out.size))
    have HD3 := Lib.hid (HD.out.under hbx (Nat.le_refl _))
    clear hbx
    generalize (w2.alloc (.cells #[.string p, .int .i64 v1, .int .i64 v2, .int .i64 v3, .slice A ds.length cap] 27)) = W at x0 A3 HD3 ⊢
    generalize w2.heap.size = g at x0 ⊢
    have X0 := Lib.hid x0
    clear x0
    go_wp2_with fail
    refine (refManParse_c s _ hs).mono ?_
    rintro e w4 ⟨hb4, hans⟩
    rcases hans with ⟨ts2, k2, hsc2, -⟩ | ⟨ts2, hsc2, hR2, -⟩ | ⟨ts2, p', v', ds', A', cap', hsc2, hR2, rfl, hdp'⟩
    · rw [HSC.out] at hsc2; injection hsc2 with h1 h2; cases h2
    · rw [HSC.out] at hsc2; injection hsc2 with h1 h2; subst h1; rw [HR.out] at hR2; cases hR2
    rw [HSC.out] at hsc2
    injection hsc2 with h1 h2
    subst h1
    rw [HR.out] at hR2
    injection hR2 with hR2
    injection hR2 with h3 h4
    injection h4 with h4 h5
    subst h3 h4 h5
    have A4 := Lib.hid (A3.out.trans (hb4.mono A3.out.size))
    have X4 := Lib.hid (X0.out.under hb4 X0.out.lt)
    have HD4 := Lib.hid (HD3.out.under hb4 (Nat.le_refl _))
    have HE4 := Lib.hid hdp'
    clear hb4 h2 hdp'
    simp only [manV]
    have hbz := (Below.refl w4.heap.size w4).alloc (Nat.le_refl _) (.cells #[.string p, .int .i64 v1, .int .i64 v2, .int .i64 v3, .slice A' ds.length cap'] 27)
    have A5 := Lib.hid (A4.out.trans (hbz.mono A4.out.size))
    have X5 := Lib.hid (X4.out.under hbz X4.out.lt)
    have Z5 := Lib.hid (Blk.new w4 #[.string p, .int .i64 v1, .int .i64 v2, .int .i64 v3, .slice A' ds.length cap'] 27)
    have HD5 := Lib.hid (HD4.out.under hbz (Nat.le_refl _))
    have HE5 := Lib.hid (HE4.out.under hbz (Nat.le_refl _))
    clear hbz
    go_upto_region 6 with fail
    generalize (w4.alloc (.cells #[.string p, .int .i64 v1, .int .i64 v2, .int .i64 v3, .slice A' ds.length cap'] 27)) = w5 at A5 X5 Z5 HD5 HE5 ⊢
    generalize w4.heap.size = gz at Z5 ⊢
    obtain ⟨k0, k1, k2, k3, k4⟩ := cells5 X5.out
    obtain ⟨q0, q1, q2, q3, q4⟩ := cells5 Z5.out
    have lz := X5.out.lt
    have lq := Z5.out.lt
    have hS := fun w h h' => manSame_c p v1 v2 v3 A A' cap cap' ds w h h' (by have := scanAll_len HSC.out; rw [List.length_map] at hdl; omega)
    simp only [manV] at hS
    have HS := Lib.hid hS
    clear hS hdl
    go_wp2_with (go_at_call 6; refine (HS.out _ HD5.out HE5.out).mono ?_; rintro e w7 ⟨rfl, hb7⟩)
    go_ret
    exact ⟨rfl, A5.out.trans (hb7.mono A5.out.size)⟩
end Go.Proofs.YtlpgkldialmofaaGreatDoor
