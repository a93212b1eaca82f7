/- The contract of scope.Check: what is amiss first with a module's names, and where. -/
import Derived.Test.YtjeldfipipkfiaaGreatBadC
import Derived.Test.YtjeldfipipkfiaaGreatSynC
namespace Go.Proofs.YtjeldfipipkfiaaGreat
open Go.RowKit
set_option linter.unusedSimpArgs false
set_option linter.unusedVariables false
def ErrAt (w : World) (v : Value) : Option (Int × Option Nat) → Prop
  | none => v = .nilIface
  | some (c, none) => v = .iface 62 (.int .i64 c)
  | some (c, some i) => ∃ b, v = .iface 65 (.pointer (some ⟨b, 0, none⟩)) ∧ Blk w b #[.int .i64 i, .iface 62 (.int .i64 c)] 67
theorem chk1_c (x : Imp) (s : ByteArray) (g : Nat) (w : World) (h3 : w.cell? ⟨g, 3, none⟩ = some (.string s)) (hlt : g < w.heap.size) :
    Calls Tryz.prog 43 #[.agg (impCells x), .pointer (some ⟨g, 0, none⟩)] w fun e w' => e = .returned (.bool (x.asN.toList == s.toList)) ∧ Below w.heap.size w w' := by
  simp only [impCells]
  go_enter Tryz.func43, Tryz.ntmps43
  go_wp2_with fail
  go_ret
  exact ⟨rfl, (Below.refl _ _).alloc (Nat.le_refl _) _⟩
theorem find_at {α : Type} {p : α → Bool} {l : List α} {k : Nat} (hk : k < l.length) (h : ∀ i (h : i < k), p (l[i]'(by omega)) = false) (h2 : p l[k] = true) : l.find? p = some l[k] := by
  rw [List.find?_eq_some_iff_getElem]
  exact ⟨h2, k, hk, rfl, fun j hj => by simp [h j hj]⟩
theorem range_hit {n k : Nat} {p : Nat → Bool} (hk : k < n) (h : ∀ i, i < k → p i = false) (h2 : p k = true) : (List.range n).find? p = some k := by
  have := find_at (p := p) (l := List.range n) (k := k) (by simpa using hk) (fun i hi => by simpa using h i hi) (by simpa using h2)
  simpa using this
theorem range_miss {n : Nat} {p : Nat → Bool} (h : ∀ i, i < n → p i = false) : (List.range n).find? p = none := by
  rw [List.find?_eq_none]
  intro i hi
  rw [h i (List.mem_range.1 hi)]
  decide
def codeN (c : Nat) : Int := if c = 0 then 5 else if c = 1 then 4 else if c = 2 then 6 else 10
def restF (m : Mdl) (c : Nat) : Option (Int × Nat) := (codes4.drop c).findSome? fun c => (firstBad m c).map fun i => (c, i)
theorem restF_step (m : Mdl) {c : Nat} (hc : c < 4) : restF m c = match firstBad m (codeN c) with | some i => some (codeN c, i) | none => restF m (c + 1) := by
  match c, hc with
  | 0, _ => rw [restF, restF]; show (codes4.findSome? _) = _; rw [codes4, List.findSome?_cons]; cases h : firstBad m 5 <;> simp [codeN, h]
  | 1, _ => rw [restF, restF]; show ([4, 6, 10].findSome? _) = _; rw [List.findSome?_cons]; cases h : firstBad m 4 <;> simp [codeN, h, codes4]
  | 2, _ => rw [restF, restF]; show ([6, 10].findSome? _) = _; rw [List.findSome?_cons]; cases h : firstBad m 6 <;> simp [codeN, h, codes4]
  | 3, _ => rw [restF, restF]; show ([10].findSome? _) = _; rw [List.findSome?_cons]; cases h : firstBad m 10 <;> simp [codeN, h, codes4]
theorem restF_end (m : Mdl) : restF m 4 = none := rfl
theorem codeN_in (c : Nat) : codeN c = 5 ∨ codeN c = 4 ∨ codeN c = 6 ∨ codeN c = 10 := by unfold codeN; split; exact .inl rfl; split; exact .inr (.inl rfl); split; exact .inr (.inr (.inl rfl)); exact .inr (.inr (.inr rfl))
set_option maxRecDepth 100000 in
set_option maxHeartbeats 40000000 in
theorem check_c (m : Mdl) (ia : Option Addr) (ic : Nat) (da : Option Addr) (dc B : Nat) (w : World) (hm : MdlC w B m ia ic da dc) (hB : B ≤ w.heap.size) :
    Calls Tryz.prog 22 #[.agg (mdlCells m ia ic da dc)] w fun e w' => ∃ v, e = .returned v ∧ ErrAt w' v (checkF m) ∧ Below w.heap.size w w' := by
  have hmay := fun W (hb : Below w.heap.size w W) => synMay_c m ia ic da dc B W (hm.under (hb.mono hB)) (Nat.le_trans hB hb.size)
  have hbad := fun W (hb : Below w.heap.size w W) hl hl2 i hi c hc => bad_c m ia ic da dc B i W (hm.under (hb.mono hB)) (Nat.le_trans hB hb.size) hl hi hl2 c hc
  simp only [mdlCells] at hmay hbad
  have HMAY := Lib.hid hmay
  have HBAD := Lib.hid hbad
  have HM := Lib.hid hm
  clear hmay hbad hm
  cases hmm : mayM m
  · have HF := Lib.hid (show checkF m = some (1, none) by rw [checkF, hmm]; rfl)
    simp only [hmm] at HMAY
    simp only [mdlCells]
    clear hmm
    go_enter Tryz.func22, Tryz.ntmps22
    go_upto_region 1 with fail
    obtain ⟨W1, hWq, b1, hb1, hz1⟩ := laidNX w #[.string m.name, .slice ia m.imps.length ic, .slice da m.decls.length dc] 25
    rewrite [← hWq]; clear hWq
    obtain ⟨x0, x1, x2⟩ := cellsT3 b1
    have lg0 := b1.lt
    have B1 := Lib.hid hb1
    clear b1 hb1
    go_wp2_with (go_at_call 42; refine (HMAY.out _ B1.out).mono ?_; rintro e w2 ⟨rfl, hb⟩; have B2 := Lib.hid (B1.out.trans (hb.mono B1.out.size)); clear hb)
    go_ret
    exact ⟨_, rfl, by rw [HF.out]; exact rfl, B2.out⟩
  · obtain ⟨-, hl1, hl2, -, -⟩ := mayM_iff.1 hmm
    have HF := Lib.hid (show checkF m = (amissF m).map fun p => (p.1, some p.2) by rw [checkF, hmm]; rfl)
    simp only [hmm] at HMAY
    simp only [mdlCells]
    clear hmm
    go_enter Tryz.func22, Tryz.ntmps22
    go_upto_region 1 with fail
    obtain ⟨W1, hWq, b1, hb1, hz1⟩ := laidNX w #[.string m.name, .slice ia m.imps.length ic, .slice da m.decls.length dc] 25
    rewrite [← hWq]; clear hWq
    obtain ⟨x0, x1, x2⟩ := cellsT3 b1
    have lg0 := b1.lt
    have B1 := Lib.hid hb1
    have D1 := Lib.hid b1
    clear b1 hb1
    go_upto_region 3 with (go_at_call 42; refine (HMAY.out _ B1.out).mono ?_; rintro e W2 ⟨rfl, hb⟩; have B2 := Lib.hid (B1.out.trans (hb.mono B1.out.size)); have D2 := Lib.hid (D1.out.under hb D1.out.lt); clear hb x0 x1 x2 lg0; obtain ⟨x0, x1, x2⟩ := cellsT3 D2.out; have lg0 := D2.out.lt)
    have hz2 : w.heap.size < W2.heap.size := D2.out.lt
    go_wp2
    go_loopw [15] (fun iv wr => ∃ k : Nat, k ≤ m.imps.length ∧ iv = .int .i64 k ∧ Below W2.heap.size W2 wr ∧ ∀ i, i < k → twiceI m.imps i = false) (fun iv _ => m.imps.length - (intOf iv).toNat)
    case atStart => exact ⟨0, Nat.zero_le _, rfl, Below.refl _ _, fun i hi => absurd hi (by omega)⟩
    case round =>
      rename World => wr
      obtain ⟨k, hk, rfl, hbr, hall⟩ := hrel
      have HBR := Lib.hid hbr
      have HA := Lib.hid hall
      have BR := Lib.hid (B2.out.trans (hbr.mono B2.out.size))
      have hBr : B ≤ wr.heap.size := Nat.le_trans hB BR.out.size
      have DR := Lib.hid (D2.out.under (hbr.mono (Nat.le_refl _)) D2.out.lt)
      clear hbr hall x0 x1 x2 lg0
      obtain ⟨x0, x1, x2⟩ := cellsT3 DR.out
      have lg0 := DR.out.lt
      by_cases hlt : k < m.imps.length
      · have hltI : (k : Int) < (m.imps.length : Int) := by omega
        obtain ⟨x, hx⟩ : ∃ x, m.imps[k] = x := ⟨_, rfl⟩
        obtain ⟨hfx, bi, oi, hia, hbi, c0, c1, c2, c3⟩ := (HM.out.imps.under (BR.out.mono hB)).elem hlt hx
        obtain rfl := hia
        have lbi : bi < wr.heap.size := by omega
        have hcap := HM.out.icap
        have hcapI : (k : Int) ≤ (ic : Int) := by omega
        have HX := Lib.hid hx
        clear hx hfx hcap
        go_upto_region 6 with fail
        clear c0 c1 c2 c3 x0 x1 x2 lg0
        obtain ⟨W3, hWq, b3, hb3, hz3⟩ := laidNX wr #[.string x.pkg, .int .i64 x.major, .string x.mod, .string x.asN] 72
        rewrite [← hWq]; clear hWq
        have D3 := Lib.hid (DR.out.under hb3 DR.out.lt)
        have E3 := Lib.hid b3
        have B3 := Lib.hid (BR.out.trans (hb3.mono BR.out.size))
        have HB3 := Lib.hid (HBR.out.trans (hb3.mono HBR.out.size))
        have hB3 : B ≤ W3.heap.size := Nat.le_trans hB B3.out.size
        obtain ⟨x0, x1, x2⟩ := cellsT3 D3.out
        have lg0 := D3.out.lt
        clear b3 hb3
        have hlen : (m.imps.take k).length = k := by rw [List.length_take]; omega
        have hc := conImp_c 43 (.pointer (some ⟨wr.heap.size, 0, none⟩)) (fun y => y.asN.toList == x.asN.toList) (some ⟨bi, oi, none⟩) ic B (m.imps.take k) W3 ((HM.out.imps.take k).under (B3.out.mono hB)) hB3 (by omega) (by intro a w; rfl)
          (fun w' hb' y hy => chk1_c y x.asN wr.heap.size w' ((E3.out.under hb' E3.out.lt).cell 3) (Nat.lt_of_lt_of_le E3.out.lt hb'.size))
        rw [show (m.imps.take k).any (fun y => y.asN.toList == x.asN.toList) = twiceI m.imps k by rw [twiceI, List.getElem?_eq_getElem hlt, HX.out], hlen] at hc
        obtain ⟨q, hq⟩ : ∃ q, twiceI m.imps k = q := ⟨_, rfl⟩
        rw [hq] at hc
        have HC := Lib.hid hc
        have HQ := Lib.hid hq
        clear hc hq hlen
        cases q
        · go_wp2_with (go_at_call 38; refine HC.out.mono ?_; rintro e w4 ⟨rfl, hb⟩; have B4 := Lib.hid (HB3.out.trans (hb.mono HB3.out.size)); clear hb)
          have hnew : ∀ i, i < k + 1 → twiceI m.imps i = false := fun i hi => by
            by_cases e : i = k
            · subst e; exact HQ.out
            · exact HA.out i (by omega)
          first
            | exact ⟨⟨k + 1, by omega, by go_num, B4.out, hnew⟩, by simp [intOf]; omega⟩
            | (go_roundw
               case rel => exact ⟨k + 1, by omega, by go_num, B4.out, hnew⟩
               case measure => simp [intOf]; omega)
        · have HFA := Lib.hid (show checkF m = some (5, some k) by rw [HF.out, amissF, range_hit hlt HA.out HQ.out]; rfl)
          go_wp2_with (go_at_call 38; refine HC.out.mono ?_; rintro e w4 ⟨rfl, hb⟩; have B4 := Lib.hid (B3.out.trans (hb.mono B3.out.size)); clear hb)
          go_ret
          exact ⟨_, rfl, by rw [HFA.out]; exact ⟨_, rfl, Blk.new _ _ _⟩, B4.out.alloc B4.out.size _⟩
      · obtain rfl : k = m.imps.length := by omega
        have hltI : ¬ (m.imps.length : Int) < (m.imps.length : Int) := by omega
        have HR := Lib.hid (show amissF m = restF m 0 by rw [amissF, range_miss HA.out]; rfl)
        go_upto_region 9 with fail
        go_wp2
        obtain ⟨W5, hWq, b5, hb5, hz5⟩ := laidNX wr #[.int .i64 5, .int .i64 4, .int .i64 6, .int .i64 10] 62
        rewrite [← hWq]; clear hWq
        have E5 := Lib.hid b5
        have D5 := Lib.hid (DR.out.under hb5 DR.out.lt)
        have B5 := Lib.hid (BR.out.trans (hb5.mono BR.out.size))
        clear b5 hb5 x0 x1 x2 lg0 HBR HA
        go_loopw [34] (fun iv wx => ∃ c : Nat, c ≤ 4 ∧ iv = .int .i64 c ∧ Below W5.heap.size W5 wx ∧ restF m c = amissF m) (fun iv _ => 4 - (intOf iv).toNat)
        case atStart => exact ⟨0, by omega, rfl, Below.refl _ _, HR.out.symm⟩
        case round =>
          rename World => wx
          obtain ⟨c, hc4, rfl, hbx, hrest⟩ := hrel
          have HX := Lib.hid hbx
          have HRS := Lib.hid hrest
          have BX := Lib.hid (B5.out.trans (hbx.mono B5.out.size))
          have hBx : B ≤ wx.heap.size := Nat.le_trans hB BX.out.size
          have DX := Lib.hid (D5.out.under hbx D5.out.lt)
          have EX := Lib.hid (E5.out.under hbx E5.out.lt)
          clear hbx hrest
          obtain ⟨x0, x1, x2⟩ := cellsT3 DX.out
          have lg0 := DX.out.lt
          by_cases hlt : c < 4
          · have hltI : (c : Int) < 4 := by omega
            have hc0 : (0 : Int) ≤ (c : Int) := by omega
            obtain ⟨cc, hcc⟩ : ∃ cc, codeN c = cc := ⟨_, rfl⟩
            have hcell : wx.cell? ⟨wr.heap.size, c, none⟩ = some (.int .i64 cc) := by
              rw [← hcc, EX.out.cell c]
              match c, hlt with
              | 0, _ => rfl
              | 1, _ => rfl
              | 2, _ => rfl
              | 3, _ => rfl
            have hcell2 : wx.cell? ⟨wr.heap.size, 0 + c, none⟩ = some (.int .i64 cc) := by rw [Nat.zero_add]; exact hcell
            have lgc := EX.out.lt
            have HST := Lib.hid (restF_step m hlt)
            have HCC := Lib.hid (hcc ▸ codeN_in c)
            rw [hcc] at HST
            clear hcc
            go_upto_region 13 with fail
            go_wp2
            go_loopw [41] (fun iv wy => ∃ k : Nat, k ≤ m.decls.length ∧ iv = .int .i64 k ∧ Below wx.heap.size wx wy ∧ ∀ i, i < k → badD m cc i = false) (fun iv _ => m.decls.length - (intOf iv).toNat)
            case atStart => exact ⟨0, Nat.zero_le _, rfl, Below.refl _ _, fun i hi => absurd hi (by omega)⟩
            case round =>
              rename World => wy
              obtain ⟨k, hk, rfl, hby, hall⟩ := hrel
              have HY := Lib.hid hby
              have HA := Lib.hid hall
              have BY := Lib.hid (BX.out.trans (hby.mono BX.out.size))
              have DY := Lib.hid (DX.out.under hby DX.out.lt)
              clear hby hall x0 x1 x2 lg0 hcell hcell2 lgc
              obtain ⟨x0, x1, x2⟩ := cellsT3 DY.out
              have lg0 := DY.out.lt
              by_cases hkl : k < m.decls.length
              · have hklI : (k : Int) < (m.decls.length : Int) := by omega
                have hbd := HBAD.out wy BY.out (by omega) (by omega) k hkl cc HCC.out
                obtain ⟨q, hq⟩ : ∃ q, badD m cc k = q := ⟨_, rfl⟩
                rw [hq] at hbd
                have HQ := Lib.hid hq
                have HBD := Lib.hid hbd
                clear hq hbd
                cases q
                · go_wp2_with (go_at_call 44; refine HBD.out.mono ?_; rintro e w6 ⟨rfl, hb⟩; have B6 := Lib.hid (HY.out.trans (hb.mono HY.out.size)); clear hb)
                  have hnew : ∀ i, i < k + 1 → badD m cc i = false := fun i hi => by
                    by_cases e : i = k
                    · subst e; exact HQ.out
                    · exact HA.out i (by omega)
                  first
                    | exact ⟨⟨k + 1, by omega, by go_num, B6.out, hnew⟩, by simp [intOf]; omega⟩
                    | (go_roundw
                       case rel => exact ⟨k + 1, by omega, by go_num, B6.out, hnew⟩
                       case measure => simp [intOf]; omega)
                · have HFA := Lib.hid (show checkF m = some (cc, some k) by
                    rw [HF.out, ← HRS.out, HST.out, firstBad, range_hit hkl HA.out HQ.out]; rfl)
                  go_wp2_with (go_at_call 44; refine HBD.out.mono ?_; rintro e w6 ⟨rfl, hb⟩; have B6 := Lib.hid (BY.out.trans (hb.mono BY.out.size)); clear hb)
                  go_ret
                  exact ⟨_, rfl, by rw [HFA.out]; exact ⟨_, rfl, Blk.new _ _ _⟩, B6.out.alloc B6.out.size _⟩
              · obtain rfl : k = m.decls.length := by omega
                have hklI : ¬ (m.decls.length : Int) < (m.decls.length : Int) := by omega
                have hn : restF m (c + 1) = amissF m := by rw [← HRS.out, HST.out, firstBad, range_miss HA.out]
                have HN := Lib.hid hn
                clear hn
                go_wp2_with fail
                first
                  | exact ⟨⟨c + 1, by omega, by go_num, HX.out.trans (HY.out.mono HX.out.size), HN.out⟩, by simp [intOf]; omega⟩
                  | (go_roundw
                     case rel => exact ⟨c + 1, by omega, by go_num, HX.out.trans (HY.out.mono HX.out.size), HN.out⟩
                     case measure => simp [intOf]; omega)
          · obtain rfl : c = 4 := by omega
            have HFA := Lib.hid (show checkF m = none by rw [HF.out, ← HRS.out, restF_end]; rfl)
            have hltI : ¬ ((4 : Nat) : Int) < 4 := by omega
            go_wp2_with fail
            go_ret
            exact ⟨_, rfl, by rw [HFA.out]; exact rfl, BX.out⟩
end Go.Proofs.YtjeldfipipkfiaaGreat
