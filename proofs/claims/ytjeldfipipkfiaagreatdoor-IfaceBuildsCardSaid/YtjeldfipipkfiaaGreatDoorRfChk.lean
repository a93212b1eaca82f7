/- The contract of merlonref07.Check: the error's number and place. Printed by mkrchk.py. -/
import Derived.Test.YtjeldfipipkfiaaGreatDoorRfBad
import Derived.Test.YtjeldfipipkfiaaGreatDoorGErr
import Derived.Deep.CutBlock
namespace Go.Proofs.YtjeldfipipkfiaaGreatDoor
open Go.RowKit
set_option linter.unusedSimpArgs false
set_option linter.unusedVariables false
set_option linter.unnecessarySimpa false
theorem may_all7 {t : Ty} (h : mayT t = true) : allT t = true ∧ manyT t ≤ 500 ∧ deepT t ≤ 32 := by
  rw [may_is, mayR, Bool.and_eq_true, Bool.and_eq_true, decide_eq_true_eq, decide_eq_true_eq] at h
  exact ⟨h.1.1, h.1.2, h.2⟩
theorem dclOk_many {d : Dcl} (h : dclOk d = true) : manyT d.ty ≤ 1000 := by
  rw [dclOk] at h
  by_cases h12 : d.kind = 1 ∨ d.kind = 2
  · rw [if_pos h12, Bool.and_eq_true] at h
    have h2 := h.2
    simp only [nothingB, Bool.and_eq_true, decide_eq_true_eq] at h2
    have hs : d.ty.subs = [] := List.eq_nil_of_length_eq_zero h2.2.2.2.2.2.2
    rw [manyT_eq, hs, manyL]
    decide
  · rw [if_neg h12] at h
    by_cases h3 : d.kind = 3
    · rw [if_pos h3, Bool.and_eq_true] at h
      have := (may_all7 h.2).2.1
      omega
    · rw [if_neg h3] at h
      by_cases h4 : d.kind = 4
      · rw [if_pos h4, Bool.and_eq_true] at h
        have := (may_all7 h.2).2.1
        omega
      · rw [if_neg h4] at h; cases h
theorem twiceI_hit {l : List Imp} {i k : Nat} {d x : Imp} (hi : i < l.length) (hd : l[i] = d) (hk : k < i) (hx : l[k]'(by omega) = x) (h : (x.asN.toList == d.asN.toList) = true) : twiceI l i = true := by
  rw [twiceI, List.getElem?_eq_getElem hi, hd]
  show (l.take i).any _ = true
  rw [List.any_eq_true]
  exact ⟨x, by rw [← hx]; exact List.mem_take_iff_getElem.2 ⟨k, by omega, rfl⟩, h⟩
theorem twiceI_miss {l : List Imp} {i : Nat} {d : Imp} (hi : i < l.length) (hd : l[i] = d) (h : ∀ j (hj : j < l.length), j < i → (l[j].asN.toList == d.asN.toList) = false) : twiceI l i = false := by
  rw [twiceI, List.getElem?_eq_getElem hi, hd]
  show (l.take i).any _ = false
  rw [List.any_eq_false]
  intro x hx
  obtain ⟨k, hk, rfl⟩ := List.mem_take_iff_getElem.1 hx
  rw [h k (by omega) (by omega)]
  decide
set_option maxRecDepth 100000 in
set_option maxHeartbeats 8000000 in
theorem rCheck_c (m : Mdl) (ia : Option Addr) (ic : Nat) (da : Option Addr) (dc B : Nat) (w : World) (hm : MdlC w B m ia ic da dc) (hB : B ≤ w.heap.size) (hmany : ∀ d ∈ m.decls, manyT d.ty ≤ 1000000000) :
    Calls Tryz.prog 16 #[.agg (mdlCells m ia ic da dc)] w fun e w' => e = .returned (.tuple #[.int .i64 (numE (checkF m)).1, .int .i64 (numE (checkF m)).2]) ∧ Below w.heap.size w w' := by
  obtain ⟨R, hR⟩ : ∃ R, checkF m = R := ⟨_, rfl⟩
  rw [hR]
  have HRR := Lib.hid hR
  have HM := Lib.hid hm
  have hmay := fun W (hb : Below w.heap.size w W) => rMayM_c m ia ic da dc B W (hm.under (hb.mono hB)) (Nat.le_trans hB hb.size) hmany
  clear hm hmany hR
  cases hmm : mayM m
  · have hr : R = some (1, none) := by rw [← HRR.out, checkF, hmm]; rfl
    subst hr
    simp only [hmm, mdlCells] at hmay
    have HMAY := Lib.hid hmay
    clear hmay hmm
    simp only [mdlCells]
    go_enter Tryz.func16, Tryz.ntmps16
    go_upto_region 1 with fail
    obtain ⟨W1, hWq, b1, hb1, hz1⟩ := laidNX w #[.string m.name, .slice ia m.imps.length ic, .slice da m.decls.length dc] 25
    rewrite [← hWq]; clear hWq
    obtain ⟨x0, x1, x2⟩ := cellsT3 b1
    have lg0 := b1.lt
    have B1 := Lib.hid hb1
    clear b1 hb1
    go_wp2_with (go_at_call 19; refine (HMAY.out _ B1.out).mono ?_; rintro e w2 ⟨rfl, hb⟩; have B2 := Lib.hid (B1.out.trans (hb.mono B1.out.size)); clear hb)
    refine bodyPost_ret (by simp [results, Tryz.results16, go_sem]; try rfl) rfl ?_
    exact ⟨rfl, B2.out⟩
  · obtain ⟨-, hl1, hl2, -, hok⟩ := mayM_iff.1 hmm
    have HOK := Lib.hid hok
    have HMD := Lib.hid (fun d hd => dclOk_many (hok d hd))
    have HF := Lib.hid (show checkF m = (amissF m).map fun p => (p.1, some p.2) by rw [checkF, hmm]; rfl)
    have hbad := fun W (hb : Below w.heap.size w W) (k : Nat) (hk : k < m.decls.length) cc (hcc : cc = 5 ∨ cc = 4 ∨ cc = 6 ∨ cc = 10) => (show Calls Tryz.prog 52 #[.agg (mdlCells m ia ic da dc), .int .i64 k, .int .i64 cc] W fun e w' => e = .returned (.bool (badD m cc k)) ∧ Below W.heap.size W w' from by
      have hmW := HM.out.under (hb.mono hB)
      have hBW := Nat.le_trans hB hb.size
      rcases hcc with rfl | rfl | rfl | rfl
      · exact rBad5_c m ia ic da dc B k W hmW hBW hl2 hk HMD.out
      · exact rBad4_c m ia ic da dc B k W hmW hBW hl2 hk HMD.out
      · exact rBad6_c m ia ic da dc B k W hmW hBW hl2 hk HMD.out
      · exact rBad10_c m ia ic da dc B k W hmW hBW hl2 hk HMD.out HOK.out)
    simp only [hmm, mdlCells] at hmay hbad
    have HMAY := Lib.hid hmay
    have HBAD := Lib.hid hbad
    simp only [mdlCells]
    clear hmm hmay hbad hok
    go_enter Tryz.func16, Tryz.ntmps16
    go_upto_region 1 with fail
    obtain ⟨W1, hWq, b1, hb1, hz1⟩ := laidNX w #[.string m.name, .slice ia m.imps.length ic, .slice da m.decls.length dc] 25
    rewrite [← hWq]; clear hWq
    obtain ⟨x0, x1, x2⟩ := cellsT3 b1
    have lg0 := b1.lt
    have B1 := Lib.hid hb1
    have D1 := Lib.hid b1
    clear b1 hb1
    go_upto_region 4 with (go_at_call 19; refine (HMAY.out _ B1.out).mono ?_; rintro e W2 ⟨rfl, hb⟩; have B2 := Lib.hid (B1.out.trans (hb.mono B1.out.size)); have D2 := Lib.hid (D1.out.under hb D1.out.lt); clear hb x0 x1 x2 lg0; obtain ⟨x0, x1, x2⟩ := cellsT3 D2.out; have lg0 := D2.out.lt)
    clear x0 x1 x2 lg0
    go_wp2_with fail
    go_loopw [5] (fun iv wr => ∃ k : Nat, k ≤ m.imps.length ∧ iv = .int .i64 k ∧ Below W2.heap.size W2 wr ∧ ∀ i, i < k → twiceI m.imps i = false) (fun iv _ => m.imps.length - (intOf iv).toNat)
    case atStart => exact ⟨0, Nat.zero_le _, rfl, Below.refl _ _, fun i hi => absurd hi (by omega)⟩
    case round =>
      rename World => wr
      obtain ⟨k, hk, rfl, hbr, hall⟩ := hrel
      have HBR := Lib.hid hbr
      have HA := Lib.hid hall
      have BR := Lib.hid (B2.out.trans (hbr.mono B2.out.size))
      have hBr : B ≤ wr.heap.size := Nat.le_trans hB BR.out.size
      have DR := Lib.hid (D2.out.under hbr D2.out.lt)
      clear hbr hall
      obtain ⟨x0, x1, x2⟩ := cellsT3 DR.out
      have lg0 := DR.out.lt
      by_cases hlt : k < m.imps.length
      · have hltI : (k : Int) < (m.imps.length : Int) := by omega
        have hk0 : (0 : Int) ≤ (k : Int) := by omega
        obtain ⟨x, hx⟩ : ∃ x, m.imps[k] = x := ⟨_, rfl⟩
        have HX := Lib.hid hx
        clear hx
        go_wp2_with fail
        clear x0 x1 x2 lg0
        go_loopw [6] (fun jv wz => ∃ j : Nat, j ≤ k ∧ jv = .int .i64 j ∧ Below wr.heap.size wr wz ∧ ∀ q (h : q < m.imps.length), q < j → (m.imps[q].asN.toList == x.asN.toList) = false) (fun jv _ => k - (intOf jv).toNat)
        case atStart => exact ⟨0, Nat.zero_le _, rfl, Below.refl _ _, fun q _ h => absurd h (by omega)⟩
        case round =>
          rename World => wz
          obtain ⟨j, hj, rfl, hbz, hall2⟩ := hrel
          have BZ := Lib.hid hbz
          have HA2 := Lib.hid hall2
          have DZ := Lib.hid (DR.out.under hbz DR.out.lt)
          clear hbz hall2
          obtain ⟨x0, x1, x2⟩ := cellsT3 DZ.out
          have lg0 := DZ.out.lt
          by_cases hjk : j < k
          · obtain ⟨y, hy⟩ : ∃ y, m.imps[j]'(by omega) = y := ⟨_, rfl⟩
            have HI := HM.out.imps.under ((BR.out.mono hB).trans (BZ.out.mono hBr))
            obtain ⟨-, bi, oi, hia, hbi, -, -, -, c3⟩ := HI.elem hlt HX.out
            obtain ⟨-, bj, oj, hja, -, -, -, -, f3⟩ := HI.elem (by omega) hy
            obtain rfl := hia
            injection hja with hja
            injection hja with q1 q2
            subst q1 q2
            have hjI : (j : Int) < (k : Int) := by omega
            have hjL : (j : Int) < (m.imps.length : Int) := by omega
            have hj0 : (0 : Int) ≤ (j : Int) := by omega
            have lbi : bi < wz.heap.size := by have := BZ.out.size; omega
            have HY := Lib.hid hy
            clear HI hy
            cases hn : (y.asN.toList == x.asN.toList)
            · have HA3 := Lib.hid (show ∀ q (h : q < m.imps.length), q < j + 1 → (m.imps[q].asN.toList == x.asN.toList) = false from fun q h hq => by
                by_cases e : q = j
                · subst e; rw [HY.out]; exact hn
                · exact HA2.out q h (by omega))
              go_upto_region 10 with fail
              go_quiet (fail)
              go_wp2_with fail
              first
                | exact ⟨⟨j + 1, by omega, by go_num, below_drewN BZ.out _, HA3.out⟩, by simp [intOf]; omega⟩
                | (go_roundw
                   case rel => exact ⟨j + 1, by omega, by go_num, below_drewN BZ.out _, HA3.out⟩
                   case measure => simp [intOf]; omega)
            · have hr : R = some (5, some k) := by rw [← HRR.out, HF.out, amissF, range_hit hlt HA.out (twiceI_hit hlt HX.out hjk HY.out hn)]; rfl
              subst hr
              go_upto_region 10 with fail
              go_quiet (fail)
              go_wp2_with fail
              refine bodyPost_ret (by simp [results, Tryz.results16, go_sem]; try rfl) rfl ?_
              exact ⟨rfl, BR.out.trans ((below_drewN BZ.out _).mono BR.out.size)⟩
          · obtain rfl : j = k := by omega
            have hjI : ¬ (j : Int) < (j : Int) := by omega
            have hnew := Lib.hid (show ∀ i, i < j + 1 → twiceI m.imps i = false from fun i hi => by
              by_cases e : i = j
              · subst e; exact twiceI_miss hlt HX.out HA2.out
              · exact HA.out i (by omega))
            go_wp2_with fail
            first
              | exact ⟨⟨j + 1, by omega, by go_num, HBR.out.trans (BZ.out.mono HBR.out.size), hnew.out⟩, by simp [intOf]; omega⟩
              | (go_roundw
                 case rel => exact ⟨j + 1, by omega, by go_num, HBR.out.trans (BZ.out.mono HBR.out.size), hnew.out⟩
                 case measure => simp [intOf]; omega)
      · obtain rfl : k = m.imps.length := by omega
        have hltI : ¬ (m.imps.length : Int) < (m.imps.length : Int) := by omega
        have HR := Lib.hid (show amissF m = restF m 0 by rw [amissF, range_miss HA.out]; rfl)
        go_upto_region 13 with fail
        obtain ⟨W5, hWq, b5, hb5, hz5⟩ := laidNX wr #[.int .i64 5, .int .i64 4, .int .i64 6, .int .i64 10] 3
        rewrite [← hWq]; clear hWq
        have E5 := Lib.hid b5
        have D5 := Lib.hid (DR.out.under hb5 DR.out.lt)
        have B5 := Lib.hid (BR.out.trans (hb5.mono BR.out.size))
        clear b5 hb5 x0 x1 x2 lg0 HBR HA
        go_wp2_with fail
        go_loopw [8] (fun iv wx => ∃ c : Nat, c ≤ 4 ∧ iv = .int .i64 c ∧ Below W5.heap.size W5 wx ∧ restF m c = amissF m) (fun iv _ => 4 - (intOf iv).toNat)
        case atStart => exact ⟨0, by omega, rfl, Below.refl _ _, HR.out.symm⟩
        case round =>
          rename World => wx
          obtain ⟨c, hc4, rfl, hbx, hrest⟩ := hrel
          have HX := Lib.hid hbx
          have HRS := Lib.hid hrest
          have BX := Lib.hid (B5.out.trans (hbx.mono B5.out.size))
          have hBx : B ≤ wx.heap.size := Nat.le_trans hB BX.out.size
          have DX := Lib.hid (D5.out.under hbx D5.out.lt)
          have EX := Lib.hid (E5.out.under hbx E5.out.lt)
          clear hbx hrest
          by_cases hlt : c < 4
          · have hltI : (c : Int) < 4 := by omega
            have hc0 : (0 : Int) ≤ (c : Int) := by omega
            obtain ⟨cc, hcc⟩ : ∃ cc, codeN c = cc := ⟨_, rfl⟩
            have hcell : wx.cell? ⟨wr.heap.size, c, none⟩ = some (.int .i64 cc) := by
              rw [← hcc, EX.out.cell c]
              match c, hlt with
              | 0, _ => rfl
              | 1, _ => rfl
              | 2, _ => rfl
              | 3, _ => rfl
            have HCL := Lib.hid hcell
            have HST := Lib.hid (restF_step m hlt)
            have HCC := Lib.hid (hcc ▸ codeN_in c)
            rw [hcc] at HST
            clear hcc hcell
            go_wp2_with fail
            go_loopw [9] (fun iv wy => ∃ k : Nat, k ≤ m.decls.length ∧ iv = .int .i64 k ∧ Below wx.heap.size wx wy ∧ ∀ i, i < k → badD m cc i = false) (fun iv _ => m.decls.length - (intOf iv).toNat)
            case atStart => exact ⟨0, Nat.zero_le _, rfl, Below.refl _ _, fun i hi => absurd hi (by omega)⟩
            case round =>
              rename World => wy
              obtain ⟨k, hk, rfl, hby, hall⟩ := hrel
              have HY := Lib.hid hby
              have HA := Lib.hid hall
              have BY := Lib.hid (BX.out.trans (hby.mono BX.out.size))
              have DY := Lib.hid (DX.out.under hby DX.out.lt)
              have hcell := (hby.cell (p := ⟨wr.heap.size, c, none⟩) EX.out.lt).trans HCL.out
              have lgc := Nat.lt_of_lt_of_le EX.out.lt hby.size
              clear hby hall
              obtain ⟨x0, x1, x2⟩ := cellsT3 DY.out
              have lg0 := DY.out.lt
              by_cases hkl : k < m.decls.length
              · have hklI : (k : Int) < (m.decls.length : Int) := by omega
                obtain ⟨q, hq⟩ : ∃ q, badD m cc k = q := ⟨_, rfl⟩
                have hbd := fun W (hb : Below wy.heap.size wy W) => HBAD.out W (BY.out.trans (hb.mono BY.out.size)) k hkl cc HCC.out
                rw [hq] at hbd
                have HQ := Lib.hid hq
                have HBD := Lib.hid hbd
                clear hq hbd
                go_upto_region 19 with fail
                go_cut [10] (fun b w6 => b = .bool q ∧ Below wy.heap.size wy w6)
                case first =>
                  refine wp_region_until [(6, fun w' => w'.cell? ⟨w.heap.size, 0, none⟩ = some (.string m.name) ∧ w'.cell? ⟨w.heap.size, 1, none⟩ = some (.slice ia m.imps.length ic) ∧ w'.cell? ⟨w.heap.size, 2, none⟩ = some (.slice da m.decls.length dc) ∧ w'.cell? ⟨wr.heap.size, c, none⟩ = some (.int .i64 cc))] (by kernel_rfl) (Until.cons (fun _ => ⟨x0, x1, x2, hcell⟩) Until.nil) (fun hU => ?_)
                  refine AnyU.loadc (i := 0) (d := 6) [6] (Si := fun w' => w'.cell? ⟨w.heap.size, 0, none⟩ = some (.string m.name) ∧ w'.cell? ⟨w.heap.size, 1, none⟩ = some (.slice ia m.imps.length ic) ∧ w'.cell? ⟨w.heap.size, 2, none⟩ = some (.slice da m.decls.length dc) ∧ w'.cell? ⟨wr.heap.size, c, none⟩ = some (.int .i64 cc)) (v := ?_) rfl (by kernel_rfl) (by kernel_rfl) (by kernel_rfl) (fun _ _ _ h => h) (by kernel_rfl) (by assumption) (by kernel_rfl) rfl (by simp) (by rfl) ?_ (fun hV => ?_)
                  rotate_left 1
                  · (intro wq hq; obtain ⟨u0, u1, u2, -⟩ := hq; go_simp; try with_reducible rfl)
                  clear hU; have hU := hV; clear hV
                  try simp only [Act.put, aput]
                  refine AnyU.take (i := 1) (v := ?_) rfl (by kernel_rfl) (by kernel_rfl) (by kernel_rfl) (fun _ _ _ h => h) (by kernel_rfl) (by assumption) (by rfl) ?_ (fun hV => ?_)
                  rotate_left 1
                  · (intro wq; go_simp; try with_reducible rfl)
                  clear hU; have hU := hV; clear hV
                  try simp only [Act.put, aput]
                  refine AnyU.take (i := 2) (v := ?_) rfl (by kernel_rfl) (by kernel_rfl) (by kernel_rfl) (fun _ _ _ h => h) (by kernel_rfl) (by assumption) (by rfl) ?_ (fun hV => ?_)
                  rotate_left 1
                  · (intro wq; go_simp; try with_reducible rfl)
                  clear hU; have hU := hV; clear hV
                  try simp only [Act.put, aput]
                  refine AnyU.take (i := 3) (v := ?_) rfl (by kernel_rfl) (by kernel_rfl) (by kernel_rfl) (fun _ _ _ h => h) (by kernel_rfl) (by assumption) (by rfl) ?_ (fun hV => ?_)
                  rotate_left 1
                  · (intro wq; go_simp; try with_reducible rfl)
                  clear hU; have hU := hV; clear hV
                  try simp only [Act.put, aput]
                  refine AnyU.take (i := 4) (v := ?_) rfl (by kernel_rfl) (by kernel_rfl) (by kernel_rfl) (fun _ _ _ h => h) (by kernel_rfl) (by assumption) (by rfl) ?_ (fun hV => ?_)
                  rotate_left 1
                  · (intro wq; go_simp; try with_reducible rfl)
                  clear hU; have hU := hV; clear hV
                  try simp only [Act.put, aput]
                  refine AnyU.loadc (i := 5) (d := 6) [6] (Si := fun w' => w'.cell? ⟨w.heap.size, 0, none⟩ = some (.string m.name) ∧ w'.cell? ⟨w.heap.size, 1, none⟩ = some (.slice ia m.imps.length ic) ∧ w'.cell? ⟨w.heap.size, 2, none⟩ = some (.slice da m.decls.length dc) ∧ w'.cell? ⟨wr.heap.size, c, none⟩ = some (.int .i64 cc)) (v := ?_) rfl (by kernel_rfl) (by kernel_rfl) (by kernel_rfl) (fun _ _ _ h => h) (by kernel_rfl) (by assumption) (by kernel_rfl) rfl (by simp) (by rfl) ?_ (fun hV => ?_)
                  rotate_left 1
                  · (intro wq hq; obtain ⟨-, -, -, u⟩ := hq; go_simp; try with_reducible rfl)
                  clear hU; have hU := hV; clear hV
                  try simp only [Act.put, aput]
                  refine AnyU.ready1 (i := 6) (by kernel_rfl) (AnyU.one rfl fun K hK => ?_)
                  go_simp
                  go_at_call 52
                  refine (HBD.out _ ((Below.refl _ _).drew)).mono ?_
                  rintro e w6 ⟨rfl, hb⟩
                  have HB6 := Lib.hid (show Below wy.heap.size wy w6 from (Below.refl _ _).drew.trans hb)
                  clear hb
                  refine hK.out _ _ (Until.offT (by kernel_rfl)) (fun hV => ?_)
                  clear hK K
                  clear hU; have hU := hV; clear hV
                  try simp only [Act.put, aput]
                  refine AnyU.take (i := 7) (v := ?_) rfl (by kernel_rfl) (by kernel_rfl) (by kernel_rfl) (fun _ _ _ h => h) (by kernel_rfl) (by assumption) (by rfl) ?_ (fun hV => ?_)
                  rotate_left 1
                  · (intro wq; go_simp; try with_reducible rfl)
                  clear hU; have hU := hV; clear hV
                  try simp only [Act.put, aput]
                  refine AnyU.done (by kernel_rfl) ?_
                  go_wp2_with fail
                  go_meet
                  exact ⟨rfl, HB6.out⟩
                case rest =>
                  rename World => w6
                  obtain ⟨rfl, hb6⟩ := hcut
                  have hcell := (hb6.cell (p := ⟨wr.heap.size, c, none⟩) lgc).trans hcell
                  have lgc := Nat.lt_of_lt_of_le lgc hb6.size
                  have HB6 := Lib.hid hb6
                  clear hb6 x0 x1 x2 lg0
                  cases q
                  · have hnew := Lib.hid (show ∀ i, i < k + 1 → badD m cc i = false from fun i hi => by
                      by_cases e : i = k
                      · subst e; exact HQ.out
                      · exact HA.out i (by omega))
                    go_wp2_with fail
                    first
                      | exact ⟨⟨k + 1, by omega, by go_num, HY.out.trans (HB6.out.mono HY.out.size), hnew.out⟩, by simp [intOf]; omega⟩
                      | (go_roundw
                         case rel => exact ⟨k + 1, by omega, by go_num, HY.out.trans (HB6.out.mono HY.out.size), hnew.out⟩
                         case measure => simp [intOf]; omega)
                  · have hr : R = some (cc, some k) := by
                      rw [← HRR.out, HF.out, ← HRS.out, HST.out, firstBad, range_hit hkl HA.out HQ.out]; rfl
                    subst hr
                    go_wp2_with fail
                    refine bodyPost_ret (by simp [results, Tryz.results16, go_sem]; try rfl) rfl ?_
                    exact ⟨rfl, BY.out.trans (HB6.out.mono BY.out.size)⟩
              · obtain rfl : k = m.decls.length := by omega
                have hklI : ¬ (m.decls.length : Int) < (m.decls.length : Int) := by omega
                have hn : restF m (c + 1) = amissF m := by rw [← HRS.out, HST.out, firstBad, range_miss HA.out]
                have HN := Lib.hid hn
                clear hn
                go_wp2_with fail
                first
                  | exact ⟨⟨c + 1, by omega, by go_num, HX.out.trans (HY.out.mono HX.out.size), HN.out⟩, by simp [intOf]; omega⟩
                  | (go_roundw
                     case rel => exact ⟨c + 1, by omega, by go_num, HX.out.trans (HY.out.mono HX.out.size), HN.out⟩
                     case measure => simp [intOf]; omega)
          · obtain rfl : c = 4 := by omega
            have hr : R = none := by rw [← HRR.out, HF.out, ← HRS.out, restF_end]; rfl
            subst hr
            have hltI : ¬ ((4 : Nat) : Int) < 4 := by omega
            go_wp2_with fail
            refine bodyPost_ret (by simp [results, Tryz.results16, go_sem]; try rfl) rfl ?_
            exact ⟨rfl, BX.out⟩
end Go.Proofs.YtjeldfipipkfiaaGreatDoor
