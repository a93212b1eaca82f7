/- The contract of sub.parts, by what bound does at the parts. -/
import Derived.Test.YtalpmjmifcofeaaPartA
import Derived.Deep.RegionLaw
import Derived.Deep.DeepCutAuto
import Derived.Deep.Cut
namespace Go.Proofs.Ytalpmjmifcofeaa
open Go.RowKit
set_option linter.unusedSimpArgs false
set_option linter.unusedVariables false
theorem partG_at (r : Bool → Ty → Ty → Option Ty) (up : Bool) (a b : Ty) (k : Nat) (h : k < a.subs.length) (h' : k < b.subs.length) : partG r up a b k = r (wayOf up a k) a.subs[k] b.subs[k] := by
  simp [partG, List.getD, h, h']
theorem partsR_none (r : Bool → Ty → Ty → Option Ty) (up : Bool) (a b : Ty) (k : Nat) (h : k < a.subs.length) (h2 : partG r up a b k = none) : partsR r up a b = none := by
  unfold partsR
  split
  · rw [allSome_none _ (List.mem_map.2 ⟨k, List.mem_range.2 h, h2⟩)]
    rfl
  · rfl
theorem partsR_some (r : Bool → Ty → Ty → Option Ty) (up : Bool) (a b : Ty) (L : List Ty) (h : a.subs.length = b.subs.length) (h2 : allSome ((List.range a.subs.length).map (partG r up a b)) = some L) : partsR r up a b = some (.mk a.kind { data := #[] } 0 { data := #[] } { data := #[] } [] L) := by
  unfold partsR
  rw [if_pos h, h2]
  rfl
set_option maxRecDepth 100000 in
set_option maxHeartbeats 40000000 in
theorem parts_c (r : Bool → Ty → Ty → Option Ty) (a b : Ty) (up : Bool) (cs cs' : Array Value) (B : Nat) (w : World) (ha : TyC w B a cs) (hb : TyC w B b cs') (hB : B ≤ w.heap.size)
    (hla : a.subs.length ≤ 20) (hbd : ∀ x y v, x ∈ a.subs → y ∈ b.subs → BoundAt x y v (r v x y)) :
    Calls Try.prog 59 #[.agg cs, .agg cs', .bool up] w fun e w' => (∃ t cs'', e = .returned (.tuple #[.agg cs'', .bool (partsR r up a b).isSome]) ∧ (∀ x, partsR r up a b = some x → t = x) ∧ TyM w' (fun b => b < B ∨ Fresh w w' b) t cs'') ∧ Below w.heap.size w w' := by
  have HI := Lib.hid hbd
  obtain ⟨na, nc, sa, sc, f, rfl, hfa, hn, hs, -, -, hsub⟩ := ha.inv
  obtain ⟨na', nc', sa', sc', f', rfl, -, hn', hs', -, -, hsub'⟩ := hb.inv
  have HA := Lib.hid ha
  have HB := Lib.hid hb
  have HF := Lib.hid hfa
  have HS := Lib.hid hs
  have HU := Lib.hid hsub
  have HS' := Lib.hid hs'
  have HU' := Lib.hid hsub'
  clear ha hb hn hs hsub hn' hs' hsub' hbd hfa
  obtain ⟨iS, hiS, hzS0, hzS1, hzS2⟩ := info_parts info_type
  go_enter Try.func59, Try.ntmps59
  simp only [tyCells]
  by_cases hlen : a.subs.length = b.subs.length
  case neg =>
    have hne : ((a.subs.length : Int) != (b.subs.length : Int)) = true := by simp; omega
    go_wp2
    refine bodyPost_ret (by simp [results, Try.results59, go_sem]; try rfl) rfl ?_
    have hp : partsR r up a b = none := by unfold partsR; rw [if_neg hlen]
    refine ⟨⟨zeroTy, _, (by rw [hp]; rfl), fun x h => (by rw [hp] at h; cases h), (zero_tyc _ B).toM.mono fun b hb => Or.inl hb⟩, (((Below.refl _ _).alloc (Nat.le_refl _) _).alloc (by simp) _).alloc (by simp; omega) _⟩
  have hne : ((a.subs.length : Int) != (b.subs.length : Int)) = false := by simp; omega
  have HLE := Lib.hid hlen
  clear hlen
  go_wp2_with fail
  have h4 := boxes4 w #[.int .i64 a.kind, .string a.pkg, .int .i64 a.major, .string a.mod, .string a.name, .slice na a.names.length nc, .slice sa a.subs.length sc] #[.int .i64 b.kind, .string b.pkg, .int .i64 b.major, .string b.mod, .string b.name, .slice na' b.names.length nc', .slice sa' b.subs.length sc'] #[.int .i64 0, .string { data := #[] }, .int .i64 0, .string { data := #[] }, .string { data := #[] }, .slice none 0 0, .slice none 0 0] #[.int .i64 a.kind, .string { data := #[] }, .int .i64 0, .string { data := #[] }, .string { data := #[] }, .slice none 0 0, .slice none 0 0] 25
  generalize ((((w.alloc (.cells #[.int .i64 a.kind, .string a.pkg, .int .i64 a.major, .string a.mod, .string a.name, .slice na a.names.length nc, .slice sa a.subs.length sc] 25)).alloc (.cells #[.int .i64 b.kind, .string b.pkg, .int .i64 b.major, .string b.mod, .string b.name, .slice na' b.names.length nc', .slice sa' b.subs.length sc'] 25)).alloc (.cells #[.int .i64 0, .string { data := #[] }, .int .i64 0, .string { data := #[] }, .string { data := #[] }, .slice none 0 0, .slice none 0 0] 25)).alloc (.cells #[.int .i64 a.kind, .string { data := #[] }, .int .i64 0, .string { data := #[] }, .string { data := #[] }, .slice none 0 0, .slice none 0 0] 25)) = W at h4 ⊢
  obtain ⟨x0, x1, x2, x3, xs, xb⟩ := h4
  have hst : PartRel w W a b na nc sa sc na' nc' sa' sc' B r up (.slice none 0 0) [] [] 0 := ⟨xb, by omega, x0, x1, x2, x3, Row1.nil _ _ _, rfl⟩
  have HST := Lib.hid hst
  clear x0 x1 x2 x3 xs xb hst hne
  go_loopw [28] (fun i wr => ∃ (k : Nat) (sv : Value) (L : List Ty) (F : List (Array Value)), k ≤ a.subs.length ∧ i = .int .i64 k ∧ PartRel w wr a b na nc sa sc na' nc' sa' sc' B r up sv L F k) (fun i _ => a.subs.length - (intOf i).toNat)
  case atStart => exact ⟨0, _, _, _, Nat.zero_le _, rfl, HST.out⟩
  case round =>
    clear HST
    obtain ⟨k, sv, L, F, hk, rfl, hr⟩ := hrel
    have HR := Lib.hid hr
    have hacc := hr.below
    have hsz := hr.size
    by_cases hlt : k < a.subs.length
    · have hlt' : k < b.subs.length := by have := HLE.out; omega
      have hk20 : k < 20 := by omega
      have HLN := Lib.hid hr.len
      have hT1 := (HU.out k hlt).under (hacc.mono hB)
      have hT2 := (HU'.out k hlt').under (hacc.mono hB)
      obtain ⟨b1, o1, na1, nc1, sa1, sc1, rfl, hbb1, hfk1, c0, c1, c2, c3, c4, c5, c6⟩ := TyC.elem (HS.out.keep fun p hp => hacc.cell (p := p) (by omega)) hlt hT1
      obtain ⟨b2, o2, na2, nc2, sa2, sc2, rfl, hbb2, hfk2, d0, d1, d2, d3, d4, d5, d6⟩ := TyC.elem (HS'.out.keep fun p hp => hacc.cell (p := p) (by omega)) hlt' hT2
      rw [hfk1] at hT1
      rw [hfk2] at hT2
      have HT1 := Lib.hid hT1
      have HT2 := Lib.hid hT2
      have a0 := hr.boxa.cell 0
      have a6 := hr.boxa.cell 6
      have q6 := hr.boxb.cell 6
      simp [tyCells] at a0 a6 q6
      have hltI : (k : Int) < (a.subs.length : Int) := by omega
      have hltI' : (k : Int) < (b.subs.length : Int) := by omega
      clear hr hT1 hT2 hfk1 hfk2
      go_upto_region 7 with fail
      have hyb := Blk.new wr #[.int .i64 a.subs[k].kind, .string a.subs[k].pkg, .int .i64 a.subs[k].major, .string a.subs[k].mod, .string a.subs[k].name, .slice na1 a.subs[k].names.length nc1, .slice sa1 a.subs[k].subs.length sc1] 25
      have hB2 : Below wr.heap.size wr (wr.alloc (.cells #[.int .i64 a.subs[k].kind, .string a.subs[k].pkg, .int .i64 a.subs[k].major, .string a.subs[k].mod, .string a.subs[k].name, .slice na1 a.subs[k].names.length nc1, .slice sa1 a.subs[k].subs.length sc1] 25)) := (Below.refl _ _).alloc (Nat.le_refl _) _
      have hs2 : (wr.alloc (.cells #[.int .i64 a.subs[k].kind, .string a.subs[k].pkg, .int .i64 a.subs[k].major, .string a.subs[k].mod, .string a.subs[k].name, .slice na1 a.subs[k].names.length nc1, .slice sa1 a.subs[k].subs.length sc1] 25)).heap.size = wr.heap.size + 1 := by simp
      have hacc2 : Below w.heap.size w (wr.alloc (.cells #[.int .i64 a.subs[k].kind, .string a.subs[k].pkg, .int .i64 a.subs[k].major, .string a.subs[k].mod, .string a.subs[k].name, .slice na1 a.subs[k].names.length nc1, .slice sa1 a.subs[k].subs.length sc1] 25)) := acc0 hacc (by omega) hB2
      have hT1 := HT1.out.under ((Below.refl wr.heap.size wr).alloc (Nat.le_refl _) (.cells #[.int .i64 a.subs[k].kind, .string a.subs[k].pkg, .int .i64 a.subs[k].major, .string a.subs[k].mod, .string a.subs[k].name, .slice na1 a.subs[k].names.length nc1, .slice sa1 a.subs[k].subs.length sc1] 25) |>.mono (by omega))
      have hT2 := HT2.out.under ((Below.refl wr.heap.size wr).alloc (Nat.le_refl _) (.cells #[.int .i64 a.subs[k].kind, .string a.subs[k].pkg, .int .i64 a.subs[k].major, .string a.subs[k].mod, .string a.subs[k].name, .slice na1 a.subs[k].names.length nc1, .slice sa1 a.subs[k].subs.length sc1] 25) |>.mono (by omega))
      have q0 := (hB2.cell (p := ⟨w.heap.size, 0, none⟩) (by simp; omega)).trans a0
      have q6a := (hB2.cell (p := ⟨w.heap.size, 6, none⟩) (by simp; omega)).trans a6
      have q6b := (hB2.cell (p := ⟨w.heap.size + 1, 6, none⟩) (by simp; omega)).trans q6
      have d0 := (hB2.cell (by simp; omega)).trans d0
      have d1 := (hB2.cell (by simp; omega)).trans d1
      have d2 := (hB2.cell (by simp; omega)).trans d2
      have d3 := (hB2.cell (by simp; omega)).trans d3
      have d4 := (hB2.cell (by simp; omega)).trans d4
      have d5 := (hB2.cell (by simp; omega)).trans d5
      have d6 := (hB2.cell (by simp; omega)).trans d6
      clear a0 a6 q6 c0 c1 c2 c3 c4 c5 c6
      generalize hXb : wr.heap.size = yb at hyb ⊢
      generalize (wr.alloc (.cells #[.int .i64 a.subs[k].kind, .string a.subs[k].pkg, .int .i64 a.subs[k].major, .string a.subs[k].mod, .string a.subs[k].name, .slice na1 a.subs[k].names.length nc1, .slice sa1 a.subs[k].subs.length sc1] 25)) = W2 at hyb hB2 hs2 hacc2 hT1 hT2 q0 q6a q6b d0 d1 d2 d3 d4 d5 d6 ⊢
      have y0 := hyb.cell 0
      have y1 := hyb.cell 1
      have y2 := hyb.cell 2
      have y3 := hyb.cell 3
      have y4 := hyb.cell 4
      have y5 := hyb.cell 5
      have y6 := hyb.cell 6
      simp at y0 y1 y2 y3 y4 y5 y6
      have HYB := Lib.hid hyb
      have HW2 := Lib.hid hB2
      have HT1 := Lib.hid hT1
      have HT2 := Lib.hid hT2
      have hw2 : B ≤ W2.heap.size := by omega
      have hX1 : W2.heap.size ≤ W2.drew.heap.size := Nat.le_refl _
      have hX2 : W2.heap.size + 1 ≤ (W2.alloc (.cells #[.int .i64 0, .string { data := #[] }, .int .i64 0, .string { data := #[] }, .string { data := #[] }, .slice none 0 0, .slice none 0 0] 25)).drew.heap.size := by
        show W2.heap.size + 1 ≤ (W2.alloc _).heap.size
        simp
      have hBr : B ≤ wr.heap.size := by omega
      have hq1 : w.heap.size + 1 < W2.heap.size := by omega
      have hq2 : b2 < W2.heap.size := by omega
      have hq3 : yb < W2.heap.size := by omega
      have HS2 := Lib.hid hs2
      have HXb := Lib.hid hXb
      clear hyb hB2 hT1 hT2 hs2 hXb
      go_upto_region 8 with fail
      go_cut [44] (fun s44 wx => s44 = .bool (decide (a.kind = 7 ∧ k < a.subs.length - 1)) ∧ wx = W2)
      case first =>
        by_cases hk7 : a.kind = 7
        · have e7 : (a.kind == 7) = true := by simp [hk7]
          have HK7 := Lib.hid hk7
          clear hk7
          have hw1 : wrap64 ((a.subs.length : Int) - 1) = (a.subs.length : Int) - 1 := by unfold wrap64; omega
          by_cases h1 : (k : Int) < (a.subs.length : Int) - 1
          · have h1d : decide ((k : Int) < (a.subs.length : Int) - 1) = true := by simp [h1]
            go_wp2_with fail
            go_meet
            exact ⟨by have : k < a.subs.length - 1 := by omega
                      simp [HK7.out, this], rfl⟩
          · have h1d : decide ((k : Int) < (a.subs.length : Int) - 1) = false := by simp [h1]
            go_wp2_with fail
            go_meet
            exact ⟨by have : ¬ k < a.subs.length - 1 := by omega
                      simp [this], rfl⟩
        · have e7 : (a.kind == 7) = false := by simp [hk7]
          go_wp2_with fail
          go_meet
          exact ⟨by simp [hk7], rfl⟩
      case rest =>
       obtain ⟨rfl, rfl⟩ := hcut
       generalize hc7 : decide (a.kind = 7 ∧ k < a.subs.length - 1) = c7
       go_upto_if 44 with fail
       go_cut [11] (fun s11 wx => s11 = .bool (if c7 then !up else up) ∧ wx = wc)
       case first =>
         cases c7
         · go_wp2_with fail
           go_meet
           exact ⟨rfl, rfl⟩
         · go_wp2_with fail
           go_meet
           exact ⟨rfl, rfl⟩
       case rest =>
        obtain ⟨rfl, rfl⟩ := hcut
        have hway : (if c7 then !up else up) = wayOf up a k := by subst hc7; unfold wayOf; simp
        generalize (if c7 then !up else up) = v at hway ⊢
        have HWY := Lib.hid hway
        clear hway hc7
        go_upto_region 10 with fail
        go_cut [12, 13, 28] (fun s12 s13 s28 wx => ∃ (tb : Nat) (t : Ty) (na3 : Option Addr) (nc3 : Nat) (sa3 : Option Addr) (sc3 : Nat), s12 = .pointer (some ⟨tb, 0, none⟩) ∧ s13 = .bool (r v a.subs[k] b.subs[k]).isSome ∧ s28 = .int .i64 k ∧ CutRel wr wx B t (tyCells t na3 nc3 sa3 sc3) tb ∧ (∀ x, r v a.subs[k] b.subs[k] = some x → t = x))
        case first =>
         go_region_law (first
           | (go_simp; go_at_call 39; refine (HI.out a.subs[k] b.subs[k] v (List.getElem_mem hlt) (List.getElem_mem hlt') _ _ B wc.drew (HT1.out.keep fun _ _ => rfl) (HT2.out.keep fun _ _ => rfl) hw2).mono ?_; rintro e w3 ⟨⟨t, cr, rfl, hrt, htm⟩, hb3⟩; obtain ⟨na3, nc3, sa3, sc3, f3, rfl, -⟩ := htm.inv; simp only [tyCells]; have hAl : Below wc.heap.size wc w3 := (Below.refl _ _).drew.trans hb3; have HAL := Lib.hid hAl; clear hAl; have HTM := Lib.hid htm; have HB3 := Lib.hid hb3; have HRT := Lib.hid hrt; clear htm hb3 hrt)
           | (go_simp; go_at_call 39; refine (HI.out a.subs[k] b.subs[k] v (List.getElem_mem hlt) (List.getElem_mem hlt') _ _ B (wc.alloc (.cells #[.int .i64 0, .string { data := #[] }, .int .i64 0, .string { data := #[] }, .string { data := #[] }, .slice none 0 0, .slice none 0 0] 25)).drew ((HT1.out.alloc hw2 _).keep fun _ _ => rfl) ((HT2.out.alloc hw2 _).keep fun _ _ => rfl) (by show B ≤ (wc.alloc _).heap.size; simp; omega)).mono ?_; rintro e w3 ⟨⟨t, cr, rfl, hrt, htm⟩, hb3⟩; obtain ⟨na3, nc3, sa3, sc3, f3, rfl, -⟩ := htm.inv; simp only [tyCells]; have zb : Blk w3 wc.heap.size #[.int .i64 0, .string { data := #[] }, .int .i64 0, .string { data := #[] }, .string { data := #[] }, .slice none 0 0, .slice none 0 0] 25 := (Blk.new wc #[.int .i64 0, .string { data := #[] }, .int .i64 0, .string { data := #[] }, .string { data := #[] }, .slice none 0 0, .slice none 0 0] 25).drew.under hb3 (by show wc.heap.size < (wc.alloc _).heap.size; simp); have hAl : Below wc.heap.size wc w3 := ((Below.refl wc.heap.size wc).alloc (Nat.le_refl _) _).drew.trans (hb3.mono (by show wc.heap.size ≤ (wc.alloc _).heap.size; simp)); have HAL := Lib.hid hAl; clear hAl; have z0 := zb.cell 0; have zf0 := zb.free 0; have z1 := zb.cell 1; have zf1 := zb.free 1; have z2 := zb.cell 2; have zf2 := zb.free 2; have z3 := zb.cell 3; have zf3 := zb.free 3; have z4 := zb.cell 4; have zf4 := zb.free 4; have z5 := zb.cell 5; have zf5 := zb.free 5; have z6 := zb.cell 6; have zf6 := zb.free 6; simp at z0 z1 z2 z3 z4 z5 z6; have HZB := Lib.hid zb; clear zb; have HTM := Lib.hid htm; have HB3 := Lib.hid hb3; have HRT := Lib.hid hrt; clear htm hb3 hrt))
         all_goals first
           | (have hq := CutRel.two (W2 := wc) (X := (wc.alloc (.cells #[.int .i64 0, .string { data := #[] }, .int .i64 0, .string { data := #[] }, .string { data := #[] }, .slice none 0 0, .slice none 0 0] 25)).drew) hBr HW2.out HAL.out hX2 HZB.out HTM.out; generalize (((((((((((((w3.setCell ⟨wc.heap.size, 0, none⟩ (.int .i64 t.kind))).setCell ⟨wc.heap.size, 1, none⟩ (.string t.pkg))).setCell ⟨wc.heap.size, 2, none⟩ (.int .i64 t.major))).setCell ⟨wc.heap.size, 3, none⟩ (.string t.mod))).setCell ⟨wc.heap.size, 4, none⟩ (.string t.name))).setCell ⟨wc.heap.size, 5, none⟩ (.slice na3 t.names.length nc3))).setCell ⟨wc.heap.size, 6, none⟩ (.slice sa3 t.subs.length sc3)) = Wz at hq ⊢)
           | (have hq := CutRel.one (W2 := wc) (X := wc.drew) hBr HW2.out HAL.out hX1 HTM.out; simp only [tyCells] at hq; generalize (w3.alloc (.cells #[.int .i64 t.kind, .string t.pkg, .int .i64 t.major, .string t.mod, .string t.name, .slice na3 t.names.length nc3, .slice sa3 t.subs.length sc3] 25)) = Wz at hq ⊢)
         all_goals
           have HQ := Lib.hid hq
           clear hq
           go_wp2_with fail
           go_meet
           exact ⟨_, _, _, _, _, _, rfl, rfl, rfl, HQ.out, HRT.out⟩
        case rest =>
         obtain ⟨tb, t, na3, nc3, sa3, sc3, rfl, rfl, rfl, hc, hrt⟩ := hcut
         clear y0 y1 y2 y3 y4 y5 y6 d0 d1 d2 d3 d4 d5 d6 q6a q6b q0
         have HC := Lib.hid hc
         have hG : partG r up a b k = r v a.subs[k] b.subs[k] := by rw [HWY.out]; exact partG_at r up a b k hlt hlt'
         have HG := Lib.hid hG
         clear hG
         have hrs := HR.out.res.under HC.out.below HR.out.res.lt
         have z0 := hrs.cell 0
         have f0 := hrs.free 0
         have z1 := hrs.cell 1
         have f1 := hrs.free 1
         have z2 := hrs.cell 2
         have f2 := hrs.free 2
         have z3 := hrs.cell 3
         have f3 := hrs.free 3
         have z4 := hrs.cell 4
         have f4 := hrs.free 4
         have z5 := hrs.cell 5
         have f5 := hrs.free 5
         have z6 := hrs.cell 6
         have f6 := hrs.free 6
         simp at z0 z1 z2 z3 z4 z5 z6
         have HRS := Lib.hid hrs
         clear hrs
         cases hr : r v a.subs[k] b.subs[k]
         · clear hc hrt
           have hp : partsR r up a b = none := partsR_none r up a b k hlt (HG.out.trans hr)
           have HP := Lib.hid hp
           clear hr hp
           simp only [Option.isSome_none]
           go_wp2_with fail
           have hblk := put7_full (.int .i64 0) (.string { data := #[] }) (.int .i64 0) (.string { data := #[] }) (.string { data := #[] }) (.slice none 0 0) (.slice none 0 0) HRS.out
           have hbl := put7_bel (.int .i64 0) (.string { data := #[] }) (.int .i64 0) (.string { data := #[] }) (.string { data := #[] }) (.slice none 0 0) (.slice none 0 0) (acc0 hacc (by omega) HC.out.below) (show w.heap.size ≤ w.heap.size + 1 + 1 by omega)
           generalize (((((((wc.setCell ⟨w.heap.size + 1 + 1, 0, none⟩ (.int .i64 0)).setCell ⟨w.heap.size + 1 + 1, 1, none⟩ (.string { data := #[] })).setCell ⟨w.heap.size + 1 + 1, 2, none⟩ (.int .i64 0)).setCell ⟨w.heap.size + 1 + 1, 3, none⟩ (.string { data := #[] })).setCell ⟨w.heap.size + 1 + 1, 4, none⟩ (.string { data := #[] })).setCell ⟨w.heap.size + 1 + 1, 5, none⟩ (.slice none 0 0)).setCell ⟨w.heap.size + 1 + 1, 6, none⟩ (.slice none 0 0)) = Wz at hblk hbl ⊢
           have p0 := hblk.cell 0
           have p1 := hblk.cell 1
           have p2 := hblk.cell 2
           have p3 := hblk.cell 3
           have p4 := hblk.cell 4
           have p5 := hblk.cell 5
           have p6 := hblk.cell 6
           simp at p0 p1 p2 p3 p4 p5 p6
           refine bodyPost_ret (by simp [results, Try.results59, go_sem, p0, p1, p2, p3, p4, p5, p6]; try rfl) rfl ?_
           exact ⟨⟨zeroTy, _, (by rw [HP.out]; rfl), fun x h => (by rw [HP.out] at h; cases h), (zero_tyc _ B).toM.mono fun b hb => Or.inl hb⟩, hbl⟩
         · obtain rfl := hrt _ hr
           have hG2 : partG r up a b k = some t := HG.out.trans hr
           have HG2 := Lib.hid hG2
           have hbx := HR.out.out.under hc.below HR.out.out.lt
           have htb := hc.blk
           have e6 := hbx.cell 6
           have g6 := hbx.free 6
           have hlb := hbx.lt
           have hlt3 := htb.lt
           have t0 := htb.cell 0
           have t1 := htb.cell 1
           have t2 := htb.cell 2
           have t3 := htb.cell 3
           have t4 := htb.cell 4
           have t5 := htb.cell 5
           have t6 := htb.cell 6
           simp [tyCells] at e6 t0 t1 t2 t3 t4 t5 t6
           have hrw := HR.out.rows.under hc.below (by omega)
           have HBX := Lib.hid hbx
           have HTB := Lib.hid htb
           have hown2 := fun g hg => owns_lt HR.out.rows.row (g := g) hg
           have hlo := hc.lo
           have hbw := hc.below.size
           have hsb : sv.ownBlock ≠ some (w.heap.size + 1 + 1 + 1) := fun e => by have := hown2 _ e; omega
           have HRW := Lib.hid hrw
           clear hc hrt hr hbx htb hrw hown2 hG2
           simp only [Option.isSome_some]
           have hone7 : ∀ u ∈ (#[.int .i64 t.kind, .string t.pkg, .int .i64 t.major, .string t.mod, .string t.name, .slice na3 t.names.length nc3, .slice sa3 t.subs.length sc3] : Array Value).toList, u.oneCell' = true := by simp [Value.oneCell']
           have hml : L.length + 1 ≤ maxLen := by have := HLN.out; unfold maxLen; omega
           have hb112 : (L.length + 1) * 112 ≤ 140737488355328 := by have := HLN.out; omega
           have hX3 : Below wc.heap.size wc (wc.alloc (.cells #[.int .i64 t.kind, .string t.pkg, .int .i64 t.major, .string t.mod, .string t.name, .slice na3 t.names.length nc3, .slice sa3 t.subs.length sc3] 25)) := (Below.refl _ _).alloc (Nat.le_refl _) _
           have hX3s : w.heap.size + 4 ≤ (wc.alloc (.cells #[.int .i64 t.kind, .string t.pkg, .int .i64 t.major, .string t.mod, .string t.name, .slice na3 t.names.length nc3, .slice sa3 t.subs.length sc3] 25)).heap.size := by simp; omega
           have HX3 := Lib.hid hX3
           clear hX3
           go_wp2_with (at_builtin; refine wpList_append_lies (wc.alloc (.cells #[.int .i64 t.kind, .string t.pkg, .int .i64 t.major, .string t.mod, .string t.name, .slice na3 t.names.length nc3, .slice sa3 t.subs.length sc3] 25)) rfl _ _ 23 rfl (w.heap.size + 4) 25 iS (.agg zeroCells) 7 112 Try.underlying23 hiS hzS0 hzS1 hzS2 rfl (by decide) sv L.length (F.flatMap (·.toList)) rfl (owns_under HRW.out.row HX3.out) ⟨wc.heap.size, 0, none⟩ 1 1 (#[.int .i64 t.kind, .string t.pkg, .int .i64 t.major, .string t.mod, .string t.name, .slice na3 t.names.length nc3, .slice sa3 t.subs.length sc3] : Array Value).toList rfl (by rfl) (World.news_of_block (cs := #[.int .i64 t.kind, .string t.pkg, .int .i64 t.major, .string t.mod, .string t.name, .slice na3 t.names.length nc3, .slice sa3 t.subs.length sc3]) (t := 25) (fr := (0, 0)) (heap_alloc_new wc _)) hone7 (by decide) hml hb112 hX3s _ rfl ?_; intro gS cS x4 hownS hgS hatS hltS; obtain ⟨e5', e6', f5', f6'⟩ := grown_box2 hgS (HBX.out.under HX3.out HBX.out.lt) hsb; have HOS := Lib.hid hownS; have HGS := Lib.hid hgS; have HAS := Lib.hid hatS; clear hownS hgS hatS)
           have hnx := HR.out.next hB HC.out HG2.out HX3.out HGS.out HOS.out (HAS.out.imp id fun e => by rw [e]; exact HX3.out.size)
           first
             | exact ⟨⟨k + 1, _, _, _, by omega, by go_num, hnx⟩, by simp [intOf]; omega⟩
             | (go_roundw
                case rel => exact ⟨k + 1, _, _, _, by omega, by go_num, hnx⟩
                case measure => simp [intOf]; omega)
    · have hke : k = a.subs.length := by omega
      obtain ⟨A2, m2, c2, rfl⟩ := own_form hr.rows.row
      have o0 := hr.out.cell 0
      have z0 := hr.res.cell 0
      have f0 := hr.res.free 0
      have o1 := hr.out.cell 1
      have z1 := hr.res.cell 1
      have f1 := hr.res.free 1
      have o2 := hr.out.cell 2
      have z2 := hr.res.cell 2
      have f2 := hr.res.free 2
      have o3 := hr.out.cell 3
      have z3 := hr.res.cell 3
      have f3 := hr.res.free 3
      have o4 := hr.out.cell 4
      have z4 := hr.res.cell 4
      have f4 := hr.res.free 4
      have o5 := hr.out.cell 5
      have z5 := hr.res.cell 5
      have f5 := hr.res.free 5
      have o6 := hr.out.cell 6
      have z6 := hr.res.cell 6
      have f6 := hr.res.free 6
      simp at o0 z0 o1 z1 o2 z2 o3 z3 o4 z4 o5 z5 o6 z6
      have hkx : ¬ (k : Int) < (a.subs.length : Int) := by omega
      have hp : partsR r up a b = some (.mk a.kind { data := #[] } 0 { data := #[] } { data := #[] } [] L) := partsR_some r up a b L HLE.out (by rw [← hke]; exact hr.got)
      have HP := Lib.hid hp
      have hL20 : L.length ≤ 20 := by have := hr.len; omega
      have HL20 := Lib.hid hL20
      clear hr hp hke hL20
      go_wp2_with fail
      have hlast := HR.out.last hB HF.out HL20.out (.int .i64 a.kind) (.string { data := #[] }) (.int .i64 0) (.string { data := #[] }) (.string { data := #[] }) (.slice none 0 0) (.slice A2 m2 c2)
      have hblk := put7_full (.int .i64 a.kind) (.string { data := #[] }) (.int .i64 0) (.string { data := #[] }) (.string { data := #[] }) (.slice none 0 0) (.slice A2 m2 c2) HR.out.res
      simp only [put7_zero] at hlast
      generalize (((((((wr.setCell ⟨w.heap.size + 1 + 1, 0, none⟩ (.int .i64 a.kind)).setCell ⟨w.heap.size + 1 + 1, 1, none⟩ (.string { data := #[] })).setCell ⟨w.heap.size + 1 + 1, 2, none⟩ (.int .i64 0)).setCell ⟨w.heap.size + 1 + 1, 3, none⟩ (.string { data := #[] })).setCell ⟨w.heap.size + 1 + 1, 4, none⟩ (.string { data := #[] })).setCell ⟨w.heap.size + 1 + 1, 5, none⟩ (.slice none 0 0)).setCell ⟨w.heap.size + 1 + 1, 6, none⟩ (.slice A2 m2 c2)) = Wz at hlast hblk ⊢
      have q0 := hblk.cell 0
      have q1 := hblk.cell 1
      have q2 := hblk.cell 2
      have q3 := hblk.cell 3
      have q4 := hblk.cell 4
      have q5 := hblk.cell 5
      have q6 := hblk.cell 6
      simp at q0 q1 q2 q3 q4 q5 q6
      refine bodyPost_ret (by simp [results, Try.results59, go_sem, q0, q1, q2, q3, q4, q5, q6]; try rfl) rfl ?_
      exact ⟨⟨_, _, (by rw [HP.out]; rfl), fun x hx => (by rw [HP.out] at hx; exact Option.some.inj hx), hlast.1⟩, hlast.2⟩
end Go.Proofs.Ytalpmjmifcofeaa
