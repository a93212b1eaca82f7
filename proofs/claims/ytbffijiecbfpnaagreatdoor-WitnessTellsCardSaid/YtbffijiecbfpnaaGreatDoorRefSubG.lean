/- One case of the contract of merlonref09.Sub. -/
import Derived.Test.YtbffijiecbfpnaaGreatDoorRefSubB
namespace Go.Proofs.YtbffijiecbfpnaaGreatDoor
open Go.RowKit
set_option linter.unusedSimpArgs false
set_option linter.unusedVariables false
set_option maxRecDepth 100000 in
set_option maxHeartbeats 4000000 in
theorem refSub_7 (n : Nat) (HI : Hid (RefSubC n)) (a b : Ty) (cs cs' : Array Value) (B : Nat) (w : World) (ha : TyC w B a cs) (hb : TyC w B b cs') (hB : B ≤ w.heap.size)
    (ma : mayT a = true) (mb : mayT b = true) (da : deepT a ≤ n + 1) (db : deepT b ≤ n + 1) (hk : a.kind = b.kind) (h4 : ¬ a.kind = 4) (h5 : ¬ a.kind = 5) (h6 : ¬ a.kind = 6) (h7 : a.kind = 7) :
    Calls Tryz.prog 60 #[.agg cs, .agg cs'] w fun e w' => e = .returned (.bool (subF (n + 1) a b)) ∧ Below w.heap.size w w' := by
  obtain ⟨na, nc, sa, sc, f, rfl, -, hn, hs, -, -, hsub⟩ := ha.inv
  obtain ⟨na', nc', sa', sc', f', rfl, -, hn', hs', -, -, hsub'⟩ := hb.inv
  have HA := Lib.hid ha
  have HB := Lib.hid hb
  have HN := Lib.hid hn
  have HN' := Lib.hid hn'
  have HS := Lib.hid hs
  have HS' := Lib.hid hs'
  have HU := Lib.hid hsub
  have HU' := Lib.hid hsub'
  have MA := Lib.hid ma
  have MB := Lib.hid mb
  have hl1 := may_small ma
  have hl2 := may_small mb
  clear ha hb hn hn' hs hs' hsub hsub' ma mb
  go_enter Tryz.func60, Tryz.ntmps60
  have hacc : Below w.heap.size w ((w.alloc (.cells (tyCells a na nc sa sc) 41)).alloc (.cells (tyCells b na' nc' sa' sc') 41)) := ((Below.refl _ _).alloc (Nat.le_refl _) _).alloc (by simp) _
  have hbx := (boxes w (tyCells a na nc sa sc) (tyCells b na' nc' sa' sc') 41).1
  have hby := (boxes w (tyCells a na nc sa sc) (tyCells b na' nc' sa' sc') 41).2
  simp only [tyCells] at hacc hbx hby ⊢
  have HK := Lib.hid hk
  rw [← hk] at hacc hbx hby ⊢
  clear hk
  have hq := Lib.hid (show subF (n + 1) a b = funcB (subF n) a.subs b.subs by rw [subF, if_pos HK.out, if_neg h4, if_neg h5, if_neg h6, if_pos h7])
  obtain ⟨m, hm⟩ : ∃ m, a.subs.length = m + 1 := ⟨a.subs.length - 1, by have := may_func MA.out h7; omega⟩
  obtain ⟨m', hm'⟩ : ∃ m, b.subs.length = m + 1 := ⟨b.subs.length - 1, by have := may_func MB.out (HK.out ▸ h7); omega⟩
  have hl1 : m ≤ 19 := by have := may_small MA.out; omega
  have hl2 : m' ≤ 19 := by have := may_small MB.out; omega
  have HM := Lib.hid hm
  have HM' := Lib.hid hm'
  have H7 := Lib.hid h7
  have hc1 := HS.out
  have hc2 := HS'.out
  rw [hm] at hc1
  rw [hm'] at hc2
  rw [h7, hm, hm'] at hacc hbx hby ⊢
  clear h4 h5 h6 h7 hm hm'
  by_cases hlen : m = m'
  · subst hlen
    have HC1 := Lib.hid hc1
    have HC2 := Lib.hid hc2
    have hfun : subF (n + 1) a b = (subF n (a.subs[m]'(by rw [HM.out]; omega)) (b.subs[m]'(by rw [HM'.out]; omega)) && argsB (subF n) a.subs b.subs m) := by
      rw [hq.out, funcB_at HM.out HM'.out]
    have HF := Lib.hid hfun
    clear hfun hc1 hc2
    have hwm : IntKind.i64.wrap (m : Int) = m := IntWalk.i64_in _ (by omega)
    have hmm : ((m : Int) != (m : Int)) = false := by simp
    go_wp2
    generalize ((w.alloc (.cells #[.int .i64 7, .string a.pkg, .int .i64 a.major, .string a.mod, .string a.name, .slice na a.names.length nc, .slice sa (m + 1) sc] 41)).alloc (.cells #[.int .i64 7, .string b.pkg, .int .i64 b.major, .string b.mod, .string b.name, .slice na' b.names.length nc', .slice sa' (m + 1) sc'] 41)) = W at hacc hbx hby ⊢
    go_loopw [12] (fun i wr => ∃ j : Nat, j ≤ m ∧ i = .int .i64 j ∧ Below w.heap.size w wr ∧ BoxAt wr w.heap.size #[.int .i64 7, .string a.pkg, .int .i64 a.major, .string a.mod, .string a.name, .slice na a.names.length nc, .slice sa (m + 1) sc] ∧ BoxAt wr (w.heap.size + 1) #[.int .i64 7, .string b.pkg, .int .i64 b.major, .string b.mod, .string b.name, .slice na' b.names.length nc', .slice sa' (m + 1) sc'] ∧ ∀ i, i < j → subF n (b.subs.getD i zeroTy) (a.subs.getD i zeroTy) = true) (fun i _ => m - (intOf i).toNat)
    case atStart => exact ⟨0, Nat.zero_le _, rfl, hacc, hbx, hby, fun i hi => absurd hi (by omega)⟩
    case round =>
      clear hacc hbx hby
      obtain ⟨j, hj, rfl, hacc, hbx, hby, hall⟩ := hrel
      have HQ := Lib.hid hall
      have HX := Lib.hid hbx
      have HY := Lib.hid hby
      obtain ⟨hx1, hx2⟩ := hbx
      obtain ⟨hy1, hy2⟩ := hby
      have hszr := hacc.size
      clear hall
      by_cases hlt : j < m
      · have hT1 := (HU.out j (by rw [HM.out]; omega)).under (hacc.mono hB)
        have hT2 := (HU'.out j (by rw [HM'.out]; omega)).under (hacc.mono hB)
        obtain ⟨b1', o1', na1, nc1, sa1, sc1, hA1, hbb1', hfk1, c0, c1, c2, c3, c4, c5, c6⟩ := TyC.elem (HC1.out.keep fun p hp => hacc.cell (p := p) (by omega)) (show j < m + 1 by omega) hT1
        obtain ⟨b2', o2', na2, nc2, sa2, sc2, hA2, hbb2', hfk2, d0, d1, d2, d3, d4, d5, d6⟩ := TyC.elem (HC2.out.keep fun p hp => hacc.cell (p := p) (by omega)) (show j < m + 1 by omega) hT2
        cases hA1
        cases hA2
        rw [hfk1] at hT1
        rw [hfk2] at hT2
        have HT1 := Lib.hid hT1
        have HT2 := Lib.hid hT2
        have hlt1 : (j : Int) < (m : Int) + 1 := by omega
        clear hfk1 hfk2 hT1 hT2
        go_wp2
        go_still_tail 10, (by kernel_rfl)
        change wpList _ _ _ _ _ wr.drew
        go_wp2_with fail
        refine (HI.out (b.subs[j]'(by rw [HM'.out]; omega)) (a.subs[j]'(by rw [HM.out]; omega)) _ _ B wr.drew (HT2.out.keep fun _ _ => rfl) (HT1.out.keep fun _ _ => rfl) (Nat.le_trans hB hszr)
          (may_child MB.out (List.getElem_mem _)) (may_child MA.out (List.getElem_mem _)) (by have := deep_child (t := b) (List.getElem_mem (show j < b.subs.length by rw [HM'.out]; omega)); omega) (by have := deep_child (t := a) (List.getElem_mem (show j < a.subs.length by rw [HM.out]; omega)); omega)).mono ?_
        rintro e w2 ⟨rfl, hb2⟩
        have hacc2 : Below w.heap.size w w2 := acc0 hacc.drew hszr hb2
        have hb3 : Below wr.heap.size wr w2 := (Below.refl _ _).drew.trans hb2
        cases hr2 : subF n (b.subs[j]'(by rw [HM'.out]; omega)) (a.subs[j]'(by rw [HM.out]; omega))
        · go_wp2
          go_ret
          refine ⟨ret_b ?_, hacc2⟩
          have hz : argsB (subF n) a.subs b.subs m = false := by
            refine List.all_eq_false.2 ⟨j, List.mem_range.2 hlt, ?_⟩
            rw [getD_at (by rw [HM'.out]; omega), getD_at (by rw [HM.out]; omega), hr2]
            decide
          rw [HF.out, hz, Bool.and_false]
        · have hnext : ∀ i, i < j + 1 → subF n (b.subs.getD i zeroTy) (a.subs.getD i zeroTy) = true := by
            intro i hi
            by_cases he : i = j
            · rw [he, getD_at (by rw [HM'.out]; omega), getD_at (by rw [HM.out]; omega)]; exact hr2
            · exact HQ.out i (by omega)
          have HNX := Lib.hid hnext
          clear hnext hr2
          go_wp2
          first
            | exact ⟨⟨j + 1, by omega, by go_num, hacc2, HX.out.under hb3, HY.out.under hb3, HNX.out⟩, by simp [intOf]; omega⟩
            | (go_roundw
               case rel => exact ⟨j + 1, by omega, by go_num, hacc2, HX.out.under hb3, HY.out.under hb3, HNX.out⟩
               case measure => simp [intOf]; omega)
      · obtain rfl : j = m := by omega
        have hT1 := (HU.out j (by rw [HM.out]; omega)).under (hacc.mono hB)
        have hT2 := (HU'.out j (by rw [HM'.out]; omega)).under (hacc.mono hB)
        obtain ⟨b1', o1', na1, nc1, sa1, sc1, hA1, hbb1', hfk1, c0, c1, c2, c3, c4, c5, c6⟩ := TyC.elem (HC1.out.keep fun p hp => hacc.cell (p := p) (by omega)) (show j < j + 1 by omega) hT1
        obtain ⟨b2', o2', na2, nc2, sa2, sc2, hA2, hbb2', hfk2, d0, d1, d2, d3, d4, d5, d6⟩ := TyC.elem (HC2.out.keep fun p hp => hacc.cell (p := p) (by omega)) (show j < j + 1 by omega) hT2
        cases hA1
        cases hA2
        rw [hfk1] at hT1
        rw [hfk2] at hT2
        have HT1 := Lib.hid hT1
        have HT2 := Lib.hid hT2
        have hlt1 : (j : Int) < (j : Int) + 1 := by omega
        clear hfk1 hfk2 hT1 hT2
        go_wp2
        go_still_tail 12, (by kernel_rfl)
        change wpList _ _ _ _ _ wr.drew
        go_wp2_with fail
        refine (HI.out (a.subs[j]'(by rw [HM.out]; omega)) (b.subs[j]'(by rw [HM'.out]; omega)) _ _ B wr.drew (HT1.out.keep fun _ _ => rfl) (HT2.out.keep fun _ _ => rfl) (Nat.le_trans hB hszr)
          (may_child MA.out (List.getElem_mem _)) (may_child MB.out (List.getElem_mem _)) (by have := deep_child (t := a) (List.getElem_mem (show j < a.subs.length by rw [HM.out]; omega)); omega) (by have := deep_child (t := b) (List.getElem_mem (show j < b.subs.length by rw [HM'.out]; omega)); omega)).mono ?_
        rintro e w2 ⟨rfl, hb2⟩
        have hacc2 : Below w.heap.size w w2 := acc0 hacc.drew hszr hb2
        go_wp2
        go_ret
        refine ⟨ret_b ?_, hacc2⟩
        have hz : argsB (subF n) a.subs b.subs j = true := List.all_eq_true.2 fun i hi => HQ.out i (List.mem_range.1 hi)
        rw [HF.out, hz, Bool.and_true]
  · have hne : ((m : Int) != (m' : Int)) = true := by simp; omega
    have HL := Lib.hid hlen
    have hf : subF (n + 1) a b = false := by
      rw [hq.out, funcB, HM.out, HM'.out, decide_eq_false (by omega), Bool.false_and]
    have HF := Lib.hid hf
    clear hlen hf
    go_wp2
    go_ret
    exact ⟨ret_b HF.out.symm, hacc⟩
end Go.Proofs.YtbffijiecbfpnaaGreatDoor
