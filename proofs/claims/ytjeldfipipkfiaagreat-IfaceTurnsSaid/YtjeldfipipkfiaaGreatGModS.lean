/- The contract of merlonref04.Same; no condition but those of Go's own values. -/
import Derived.Test.YtjeldfipipkfiaaGreatGRefK
import Derived.StillTailTactics
import Derived.Test.YtjeldfipipkfiaaGreatGScope
import Derived.Test.YtjeldfipipkfiaaGreatGReg
import Derived.Deep.DeepCutAuto
import Derived.Deep.Cut
import Derived.Laws.StructEq
import Derived.Deep.QuietTactic
import Derived.Deep.Draws
namespace Go.Proofs.YtjeldfipipkfiaaGreat
open Go.RowKit
set_option linter.unusedSimpArgs false
set_option linter.unusedVariables false
def flat7 (a b : Ty) : Bool := flat5 a b && ((a.names.length : Int) == (b.names.length : Int)) && ((a.subs.length : Int) == (b.subs.length : Int))
theorem alike_flat7 {a b : Ty} (h : flat7 a b = false) : alikeT a b = false := by
  cases h5 : flat5 a b
  · exact alike_flat5 h5
  · rw [flat7, h5, Bool.true_and, Bool.and_eq_false_iff] at h
    rw [alike_of5 h5]
    rcases h with h | h
    · rw [equalB_len (by intro e; rw [e] at h; simp at h), Bool.false_and]
    · rw [alikeL_len (by intro e; rw [e] at h; simp at h), Bool.and_false]
theorem equalB_drop {l m : List ByteArray} {k : Nat} (h1 : k < l.length) (h2 : k < m.length) : equalB (l.drop k) (m.drop k) = ((l[k].toList == m[k].toList) && equalB (l.drop (k + 1)) (m.drop (k + 1))) := by
  rw [List.drop_eq_getElem_cons h1, List.drop_eq_getElem_cons h2, equalB]
set_option maxRecDepth 100000 in
set_option maxHeartbeats 4000000 in
theorem rSame_c (a : Ty) : ∀ (b : Ty) (cs cs' : Array Value) (B : Nat) (w : World), TyC w B a cs → TyC w B b cs' → B ≤ w.heap.size →
    Calls Tryz.prog 28 #[.agg cs, .agg cs'] w fun e w' => e = .returned (.bool (alikeT a b)) ∧ Below w.heap.size w w' := by
  induction a using Ty.ind with
  | h a ih =>
    intro b cs cs' B w ha hb hB
    obtain ⟨na, nc, sa, sc, f, rfl, hf, hn, hs, hnc, hsc, hsub⟩ := ha.inv
    obtain ⟨na', nc', sa', sc', f', rfl, hf', hn', hs', hnc', hsc', hsub'⟩ := hb.inv
    cases h7 : flat7 a b
    · have H7 := Lib.hid h7
      have HR := Lib.hid (alike_flat7 h7)
      clear h7 ih hf hf' hn hn' hs hs' hsub hsub' ha hb
      go_enter Tryz.func28, Tryz.ntmps28
      simp only [tyCells]
      go_wp2_with fail
      all_goals first
        | (go_ret
           exact ⟨ret_b HR.out.symm, ((Below.refl _ _).alloc (Nat.le_refl _) _).alloc (by simp) _⟩)
        | (exfalso
           have h := H7.out
           go_tidy
           simp_all [flat7, flat5])
    · have hh := h7
      rw [flat7, Bool.and_eq_true, Bool.and_eq_true] at hh
      obtain ⟨⟨h5, hl1⟩, hl2⟩ := hh
      have HR := Lib.hid (alike_of5 h5)
      obtain ⟨k, p, m, mo, n, ns, ss⟩ := a
      obtain ⟨k', p', m', mo', n', ns', ss'⟩ := b
      obtain ⟨rfl, rfl, rfl, rfl, rfl⟩ := flat5_eq h5
      have e1 : ns.length = ns'.length := by have := beq_iff_eq.1 hl1; simp only [Ty.names] at this; omega
      have e2 : ss.length = ss'.length := by have := beq_iff_eq.1 hl2; simp only [Ty.subs] at this; omega
      have HE1 := Lib.hid e1
      have HE2 := Lib.hid e2
      have HI := Lib.hid ih
      have HN := Lib.hid hn
      have HN' := Lib.hid hn'
      have HS := Lib.hid hs
      have HS' := Lib.hid hs'
      have HU := Lib.hid hsub
      have HU' := Lib.hid hsub'
      have hnm : ns.length ≤ maxLen := hf.names
      have hsm : ss.length ≤ maxLen := hf.subs
      unfold maxLen at hnm hsm
      clear ih ha hb hf hf' hn hn' hs hs' hsub hsub' h5 h7 hl1 hl2 e1 e2
      go_enter Tryz.func28, Tryz.ntmps28
      simp only [tyCells, Ty.kind, Ty.pkg, Ty.major, Ty.mod, Ty.name, Ty.names, Ty.subs]
      rw [← HE1.out, ← HE2.out]
      go_wp2
      go_loopw [5] (fun i wr => ∃ j : Nat, j ≤ ns.length ∧ i = .int .i64 j ∧ Below w.heap.size w wr ∧ BoxAt wr w.heap.size (tyCells (.mk k p m mo n ns ss) na nc sa sc) ∧ BoxAt wr (w.heap.size + 1) (tyCells (.mk k p m mo n ns' ss') na' nc' sa' sc') ∧ equalB (ns.drop j) (ns'.drop j) = equalB ns ns') (fun i _ => ns.length - (intOf i).toNat)
      case atStart =>
        have hy : tyCells (.mk k p m mo n ns' ss') na' nc' sa' sc' = #[.int .i64 k, .string p, .int .i64 m, .string mo, .string n, .slice na' ns.length nc', .slice sa' ss.length sc'] := by
          simp only [tyCells, Ty.kind, Ty.pkg, Ty.major, Ty.mod, Ty.name, Ty.names, Ty.subs]
          rw [← HE1.out, ← HE2.out]
        refine ⟨0, Nat.zero_le _, rfl, ((Below.refl _ _).alloc (Nat.le_refl _) _).alloc (by simp) _, (boxes w _ _ _).1, ?_, rfl⟩
        rw [hy]
        exact (boxes w _ _ _).2
      case round =>
        obtain ⟨j, hj, rfl, hacc, hbx, hby, heq⟩ := hrel
        have HQ := Lib.hid heq
        have HX := Lib.hid hbx
        have HY := Lib.hid hby
        obtain ⟨hx1, hx2⟩ := hbx
        obtain ⟨hy1, hy2⟩ := hby
        simp only [tyCells, Ty.kind, Ty.pkg, Ty.major, Ty.mod, Ty.name, Ty.names, Ty.subs] at hx2 hy2
        rw [← HE1.out, ← HE2.out] at hy2
        have hsz := hacc.size
        clear heq
        by_cases hlt : j < ns.length
        · have hlt' : j < ns'.length := by have := HE1.out; omega
          rcases HN.out with hr | ⟨b, o, rfl, hb, hc⟩
          · simp only [Ty.names] at hr; rw [hr] at hlt; simp at hlt
          rcases HN'.out with hr' | ⟨b', o', rfl, hb', hc'⟩
          · simp only [Ty.names] at hr'; rw [hr'] at hlt'; simp at hlt'
          have h1 : wr.cell? ⟨b, o + j, none⟩ = some (.string ns[j]) := (hacc.cell (p := ⟨b, o + j, none⟩) (by simp; omega)).trans (hc j hlt)
          have h2 : wr.cell? ⟨b', o' + j, none⟩ = some (.string ns'[j]) := (hacc.cell (p := ⟨b', o' + j, none⟩) (by simp; omega)).trans (hc' j hlt')
          have hdrop := Lib.hid (equalB_drop hlt hlt')
          clear hc hc'
          by_cases hx : ns[j] = ns'[j]
          · have hq := ba_yes hx
            have HX' := Lib.hid hx
            clear hx
            go_wp2
            go_quiet (fail)
            go_wp2
            refine ⟨⟨j + 1, by omega, by go_num, below_drewN hacc _, HX.out.under (below_drewN (Below.refl _ _) _), HY.out.under (below_drewN (Below.refl _ _) _), ?_⟩, by simp [intOf]; omega⟩
            have h := HQ.out
            rwa [hdrop.out, hq, Bool.true_and] at h
          · have hq := ba_no hx
            have HX' := Lib.hid hx
            clear hx
            go_wp2
            go_quiet (fail)
            go_wp2
            go_ret
            have h := HQ.out
            rw [hdrop.out, hq, Bool.false_and] at h
            exact ⟨ret_b (by rw [HR.out]; show _ = (equalB ns ns' && _); rw [← h]; rfl), below_drewN hacc _⟩
        · obtain rfl : j = ns.length := by omega
          have hen : equalB ns ns' = true := by
            have h := HQ.out
            rw [List.drop_of_length_le (by omega), List.drop_of_length_le (by have := HE1.out; omega)] at h
            exact h.symm
          have HEN := Lib.hid hen
          clear hen HQ
          obtain ⟨wo, rfl⟩ : ∃ wo : World, wo = wr := ⟨_, rfl⟩
          go_wp2
          go_loopw [6] (fun i wr => ∃ j : Nat, j ≤ ss.length ∧ i = .int .i64 j ∧ Below w.heap.size w wr ∧ BoxAt wr w.heap.size (tyCells (.mk k p m mo n ns ss) na nc sa sc) ∧ BoxAt wr (w.heap.size + 1) (tyCells (.mk k p m mo n ns' ss') na' nc' sa' sc') ∧ alikeL (ss.drop j) (ss'.drop j) = alikeL ss ss') (fun i _ => ss.length - (intOf i).toNat)
          case atStart => exact ⟨0, Nat.zero_le _, rfl, hacc, HX.out, HY.out, rfl⟩
          case round =>
            clear hx1 hx2 hy1 hy2 hsz hacc HX HY
            obtain ⟨i, hi, rfl, hacc, hbx, hby, heq⟩ := hrel
            have HQ := Lib.hid heq
            have HX := Lib.hid hbx
            have HY := Lib.hid hby
            obtain ⟨hx1, hx2⟩ := hbx
            obtain ⟨hy1, hy2⟩ := hby
            simp only [tyCells, Ty.kind, Ty.pkg, Ty.major, Ty.mod, Ty.name, Ty.names, Ty.subs] at hx2 hy2
            rw [← HE1.out, ← HE2.out] at hy2
            have hsz := hacc.size
            clear heq
            by_cases hlt : i < ss.length
            · have hlt' : i < ss'.length := by have := HE2.out; omega
              have hT : TyC wr B ss[i] (f i) := (HU.out i hlt).under (hacc.mono hB)
              have hT' : TyC wr B ss'[i] (f' i) := (HU'.out i hlt').under (hacc.mono hB)
              obtain ⟨b, o, na1, nc1, sa1, sc1, rfl, hbb, hfk, c0, c1, c2, c3, c4, c5, c6⟩ := TyC.elem (HS.out.keep fun p hp => hacc.cell (p := p) (by omega)) (show i < _ from hlt) hT
              obtain ⟨b', o', na2, nc2, sa2, sc2, rfl, hbb', hfk', d0, d1, d2, d3, d4, d5, d6⟩ := TyC.elem (HS'.out.keep fun p hp => hacc.cell (p := p) (by omega)) (show i < _ from hlt') hT'
              have HK := Lib.hid hfk
              have HK' := Lib.hid hfk'
              have hdrop := Lib.hid (alikeL_drop hlt hlt')
              clear hfk hfk'
              go_wp2
              go_still_tail 10, (by kernel_rfl)
              change wpList _ _ _ _ _ wr.drew
              go_wp2_with fail
              have hcall := HI.out ss[i] (List.getElem_mem hlt) ss'[i] _ _ B wr.drew (hT.keep fun _ _ => rfl) (hT'.keep fun _ _ => rfl) (Nat.le_trans hB hsz)
              rw [HK.out, HK'.out] at hcall
              refine hcall.mono ?_
              clear hcall
              rintro e w1 ⟨rfl, hb1⟩
              have hacc1 : Below w.heap.size w w1 := acc0 hacc.drew hsz hb1
              have hb2 : Below wr.heap.size wr w1 := (Below.refl _ _).drew.trans hb1
              cases hx : alikeT ss[i] ss'[i]
              · go_wp2
                go_ret
                have h := HQ.out
                rw [hdrop.out, hx, Bool.false_and] at h
                exact ⟨ret_b (by rw [HR.out]; show _ = (equalB ns ns' && alikeL ss ss'); rw [HEN.out, ← h]; rfl), hacc1⟩
              · go_wp2
                have h := HQ.out
                rw [hdrop.out, hx, Bool.true_and] at h
                first
                  | exact ⟨⟨i + 1, by omega, by go_num, hacc1, HX.out.under hb2, HY.out.under hb2, h⟩, by simp [intOf]; omega⟩
                  | (go_roundw
                     case rel => exact ⟨i + 1, by omega, by go_num, hacc1, HX.out.under hb2, HY.out.under hb2, h⟩
                     case measure => simp [intOf]; omega)
            · go_wp2
              go_ret
              have h := HQ.out
              rw [List.drop_of_length_le (by omega), List.drop_of_length_le (by have := HE2.out; omega)] at h
              exact ⟨ret_b (by rw [HR.out]; show _ = (equalB ns ns' && alikeL ss ss'); rw [HEN.out, ← h]; rfl), hacc⟩
end Go.Proofs.YtjeldfipipkfiaaGreat
namespace Go.Proofs.YtjeldfipipkfiaaGreat
open Go.RowKit
set_option linter.unusedSimpArgs false
set_option linter.unusedVariables false
def fewD (d : Dcl) : Bool := FewB d.ty && decide (d.name.size ≤ 500)
def fewM (m : Mdl) : Bool := decide (m.name.size ≤ 500) && (decide (m.imps.length ≤ 100) && (decide (m.decls.length ≤ 100) && m.decls.all fewD))
set_option maxRecDepth 100000 in
set_option maxHeartbeats 8000000 in
theorem fewM_c (m : Mdl) (ia : Option Addr) (ic : Nat) (da : Option Addr) (dc B : Nat) (w : World) (hm : MdlC w B m ia ic da dc) (hB : B ≤ w.heap.size) :
    Calls Tryz.prog 7 #[.agg (mdlCells m ia ic da dc)] w fun e w' => e = .returned (.bool (fewM m)) ∧ Below w.heap.size w w' := by
  obtain ⟨v, hv⟩ : ∃ v, fewM m = v := ⟨_, rfl⟩
  rw [hv]
  have HV := Lib.hid hv
  have HM := Lib.hid hm
  clear hv hm
  simp only [mdlCells]
  go_enter Tryz.func7, Tryz.ntmps7
  go_upto_region 1 with fail
  obtain ⟨W1, hWq, b1, hb1, hz1⟩ := laidNX w #[.string m.name, .slice ia m.imps.length ic, .slice da m.decls.length dc] 25
  rewrite [← hWq]; clear hWq
  have B1 := Lib.hid hb1
  have D1 := Lib.hid b1
  obtain ⟨x0, x1, x2⟩ := cellsT3 b1
  have lg0 := b1.lt
  clear b1 hb1
  by_cases n1 : m.name.size ≤ 500
  rotate_left
  · have hr : v = false := by rw [← HV.out, fewM, decide_eq_false n1]; rfl
    have n2 : (m.name.size : Int) > 500 := by omega
    subst hr
    go_wp2_with fail
    go_ret
    exact ⟨rfl, B1.out⟩
  have n1' : ¬ (m.name.size : Int) > 500 := by omega
  by_cases i1 : m.imps.length ≤ 100
  rotate_left
  · have hr : v = false := by rw [← HV.out, fewM, decide_eq_false i1]; simp
    have n2 : (m.imps.length : Int) > 100 := by omega
    subst hr
    go_wp2_with fail
    go_ret
    exact ⟨rfl, B1.out⟩
  have i1' : ¬ (m.imps.length : Int) > 100 := by omega
  by_cases d1 : m.decls.length ≤ 100
  rotate_left
  · have hr : v = false := by rw [← HV.out, fewM, decide_eq_false d1]; simp
    have n2 : (m.decls.length : Int) > 100 := by omega
    subst hr
    go_wp2_with fail
    go_ret
    exact ⟨rfl, B1.out⟩
  have d1' : ¬ (m.decls.length : Int) > 100 := by omega
  have HA := Lib.hid (show m.decls.all fewD = v by rw [← HV.out, fewM, decide_eq_true n1, decide_eq_true i1, decide_eq_true d1]; rfl)
  go_upto_region 3 with fail
  clear x0 x1 x2 lg0
  go_wp2
  go_loopw [3] (fun iv wr => ∃ k : Nat, k ≤ m.decls.length ∧ iv = .int .i64 k ∧ Below W1.heap.size W1 wr ∧ ∀ i (h : i < m.decls.length), i < k → fewD m.decls[i] = true) (fun iv _ => m.decls.length - (intOf iv).toNat)
  case atStart => exact ⟨0, Nat.zero_le _, rfl, Below.refl _ _, fun i _ hi => absurd hi (by omega)⟩
  case round =>
    rename World => wr
    obtain ⟨k, hk, rfl, hbr, hall⟩ := hrel
    have BR := Lib.hid hbr
    have BT := Lib.hid (B1.out.trans (hbr.mono B1.out.size))
    have HF := Lib.hid hall
    have DR := D1.out.under hbr D1.out.lt
    obtain ⟨x0, x1, x2⟩ := cellsT3 DR
    have lg0 := DR.lt
    clear hbr hall DR
    by_cases hlt : k < m.decls.length
    · obtain ⟨d, hd⟩ : ∃ d, m.decls[k] = d := ⟨_, rfl⟩
      obtain ⟨hfd, bd, od, na, nc, sa, sc, hda, hbd, htd, e0, e1, e2, e3, e4, e5, e6, e7, e8⟩ := (HM.out.decls.under (BT.out.mono hB)).elem hlt hd
      obtain rfl := hda
      have hltI : (k : Int) < (m.decls.length : Int) := by omega
      have hk0 : (0 : Int) ≤ (k : Int) := by omega
      have lbd : bd < wr.heap.size := by have := BT.out.size; omega
      have hc := Few_c d.ty _ B wr htd (Nat.le_trans hB BT.out.size)
      obtain ⟨q, hq⟩ : ∃ q, FewB d.ty = q := ⟨_, rfl⟩
      rw [hq] at hc
      simp only [tyCells] at hc
      have HC := Lib.hid hc
      have HQ := Lib.hid hq
      have HD := Lib.hid hd
      clear hc hq hd htd hfd
      by_cases s1 : d.name.size ≤ 500
      all_goals
        first
          | (have s2 : ¬ (d.name.size : Int) > 500 := by omega)
          | (have s2 : (d.name.size : Int) > 500 := by omega)
      all_goals cases q
      all_goals
        go_wp2_with (go_at_call 20; refine HC.out.mono ?_; rintro e w2 ⟨rfl, hb⟩; have B2 := Lib.hid (BR.out.trans (hb.mono BR.out.size)); have x0 := (hb.cell (p := ⟨w.heap.size, 0, none⟩) lg0).trans x0; have x1 := (hb.cell (p := ⟨w.heap.size, 1, none⟩) lg0).trans x1; have x2 := (hb.cell (p := ⟨w.heap.size, 2, none⟩) lg0).trans x2; have lg2 := Nat.lt_of_lt_of_le lg0 hb.size; have e1 := (hb.cell (p := ⟨bd, od + k * 9 + 1, none⟩) lbd).trans e1; have lbd2 := Nat.lt_of_lt_of_le lbd hb.size; clear hb)
        first
          | (exact ⟨⟨k + 1, by omega, by go_num, B2.out, fun i hi hik => by
              by_cases e : i = k
              · subst e; rw [HD.out, fewD, HQ.out, decide_eq_true s1]; rfl
              · exact HF.out i hi (by omega)⟩, by simp [intOf]; omega⟩)
          | (go_roundw
             case rel => exact ⟨k + 1, by omega, by go_num, B2.out, fun i hi hik => by
              by_cases e : i = k
              · subst e; rw [HD.out, fewD, HQ.out, decide_eq_true s1]; rfl
              · exact HF.out i hi (by omega)⟩
             case measure => simp [intOf]; omega)
          | (have hr : v = false := by
              rw [← HA.out, List.all_eq_false]
              refine ⟨_, List.getElem_mem hlt, ?_⟩
              rw [HD.out, fewD, HQ.out]
              simp [s1]
             subst hr
             go_ret
             exact ⟨rfl, B1.out.trans (B2.out.mono B1.out.size)⟩)
    · obtain rfl : k = m.decls.length := by omega
      have hltI : ¬ (m.decls.length : Int) < (m.decls.length : Int) := by omega
      have hr : v = true := by
        rw [← HA.out, List.all_eq_true]
        intro d hd
        obtain ⟨i, hi, rfl⟩ := List.getElem_of_mem hd
        exact HF.out i hi hi
      subst hr
      go_wp2_with fail
      go_ret
      exact ⟨rfl, BT.out⟩
end Go.Proofs.YtjeldfipipkfiaaGreat
namespace Go.Proofs.YtjeldfipipkfiaaGreat
open Go.RowKit
set_option linter.unusedSimpArgs false
set_option linter.unusedVariables false
theorem impEqM (a : Int) (s t u : ByteArray) (w : World) : (Op.equalIn 10000 72 (.agg #[.string s, .int .i64 a, .string t, .string u]) (.agg #[.string s, .int .i64 a, .string t, .string u])).run Tryz.prog w = .ok true w := by
  have hS : Tryz.prog.underlying 72 = some (.struct (Tryz.prog.fieldsOf 72)) := by kernel_rfl
  have hp : Tryz.prog.stoodInHeld 72 = false := by kernel_rfl
  rw [show (10000 : Nat) = 9999 + 1 from rfl, run_equalIn_agg w 9999 72 _ _ hS hp]
  simp only [Program.fieldsOf, Tryz.underlying72]
  go_simp
  try simp
theorem impNeqM (a : Int) (s t u : ByteArray) (w : World) : (binOp .neq 72 (.agg #[.string s, .int .i64 a, .string t, .string u]) (.agg #[.string s, .int .i64 a, .string t, .string u])).run Tryz.prog w = .ok (.bool false) w := by
  rw [run_neq_struct, impEqM]; rfl
set_option maxRecDepth 100000 in
set_option maxHeartbeats 8000000 in
theorem sameM_c (m : Mdl) (ia : Option Addr) (ic : Nat) (da : Option Addr) (dc : Nat) (ia' : Option Addr) (ic' : Nat) (da' : Option Addr) (dc' B : Nat) (w : World) (hm : MdlC w B m ia ic da dc) (hm' : MdlC w B m ia' ic' da' dc') (hB : B ≤ w.heap.size) (hl1 : m.imps.length ≤ 100) (hl2 : m.decls.length ≤ 100) :
    Calls Tryz.prog 11 #[.agg (mdlCells m ia ic da dc), .agg (mdlCells m ia' ic' da' dc')] w fun e w' => e = .returned (.bool true) ∧ Below w.heap.size w w' := by
  have cn := impNeqM
  have HM := Lib.hid hm
  have HM' := Lib.hid hm'
  clear hm hm'
  simp only [mdlCells]
  go_enter Tryz.func11, Tryz.ntmps11
  go_upto_region 1 with fail
  have z1 : (w.alloc (.cells #[.string m.name, .slice ia m.imps.length ic, .slice da m.decls.length dc] 25)).heap.size = w.heap.size + 1 := by simp
  obtain ⟨b1, hb1, hz3⟩ := laidN w #[.string m.name, .slice ia m.imps.length ic, .slice da m.decls.length dc] 25
  obtain ⟨b2, hb2, hz4⟩ := laidN (w.alloc (.cells #[.string m.name, .slice ia m.imps.length ic, .slice da m.decls.length dc] 25)) #[.string m.name, .slice ia' m.imps.length ic', .slice da' m.decls.length dc'] 25
  have b3 := b1.under hb2 b1.lt
  have hb3 := hb1.trans (hb2.mono hb1.size)
  rw [z1] at b2 hz4
  clear b1 hb1 hb2 hz3
  generalize (w.alloc (.cells #[.string m.name, .slice ia m.imps.length ic, .slice da m.decls.length dc] 25)).alloc (.cells #[.string m.name, .slice ia' m.imps.length ic', .slice da' m.decls.length dc'] 25) = W at b3 b2 hb3 hz4 ⊢
  have P1 := Lib.hid b3
  have P2 := Lib.hid b2
  have HB := Lib.hid hb3
  obtain ⟨x0, x1, x2⟩ := cellsT3 b3
  obtain ⟨y0, y1, y2⟩ := cellsT3 b2
  have l1 := b3.lt
  have l2 := b2.lt
  clear b3 b2 hb3 z1
  go_wp2_with fail
  go_loopw [5] (fun i wr => ∃ k : Nat, i = .int .i64 k ∧ k ≤ m.imps.length ∧ Below W.heap.size W wr) (fun i _ => m.imps.length - (intOf i).toNat)
  case atStart => exact ⟨0, rfl, Nat.zero_le _, Below.refl _ _⟩
  case round =>
    rename World => wr
    obtain ⟨k, rfl, hk, hbr⟩ := hrel
    have BK := Lib.hid hbr
    have BW := Lib.hid (HB.out.trans (hbr.mono HB.out.size))
    have r1 := P1.out.under hbr P1.out.lt
    have r2 := P2.out.under hbr P2.out.lt
    clear x0 x1 x2 y0 y1 y2 l1 l2 hbr
    obtain ⟨x0, x1, x2⟩ := cellsT3 r1
    obtain ⟨y0, y1, y2⟩ := cellsT3 r2
    have l1 := r1.lt
    have l2 := r2.lt
    clear r1 r2
    by_cases hlt : k < m.imps.length
    · obtain ⟨x, hx⟩ : ∃ x, m.imps[k] = x := ⟨_, rfl⟩
      obtain ⟨-, bi, oi, hia, hbi, c0, c1, c2, c3⟩ := (HM.out.imps.under (BW.out.mono hB)).elem hlt hx
      obtain ⟨-, bj, oj, hja, hbj, d0, d1, d2, d3⟩ := (HM'.out.imps.under (BW.out.mono hB)).elem hlt hx
      obtain rfl := hia
      obtain rfl := hja
      have hltI : (k : Int) < (m.imps.length : Int) := by omega
      have hk0 : (0 : Int) ≤ (k : Int) := by omega
      have hsz := BW.out.size
      have lbi : bi < wr.heap.size := by omega
      have lbj : bj < wr.heap.size := by omega
      clear hx hsz
      go_upto_region 6 with fail
      go_quiet (fail)
      go_wp2_with fail
      first
        | exact ⟨⟨k + 1, by go_num, by omega, below_drewN BK.out _⟩, by simp [intOf]; omega⟩
        | (go_roundw
           case rel => exact ⟨k + 1, by go_num, by omega, below_drewN BK.out _⟩
           case measure => simp [intOf]; omega)
    · obtain rfl : k = m.imps.length := by omega
      have hltI : ¬ (m.imps.length : Int) < (m.imps.length : Int) := by omega
      go_upto_region 8 with fail
      clear hltI hlt hk x0 x1 x2 y0 y1 y2 l1 l2
      go_wp2
      go_loopw [6] (fun i wz => ∃ k : Nat, i = .int .i64 k ∧ k ≤ m.decls.length ∧ Below W.heap.size W wz) (fun i _ => m.decls.length - (intOf i).toNat)
      case atStart => exact ⟨0, rfl, Nat.zero_le _, BK.out⟩
      case round =>
        rename World => wr
        obtain ⟨k, rfl, hk, hbr⟩ := hrel
        have BK := Lib.hid hbr
        have BW := Lib.hid (HB.out.trans (hbr.mono HB.out.size))
        have R1 := Lib.hid (P1.out.under hbr P1.out.lt)
        have R2 := Lib.hid (P2.out.under hbr P2.out.lt)
        clear hbr
        obtain ⟨x0, x1, x2⟩ := cellsT3 R1.out
        obtain ⟨y0, y1, y2⟩ := cellsT3 R2.out
        have l1 := R1.out.lt
        have l2 := R2.out.lt
        by_cases hlt : k < m.decls.length
        · obtain ⟨d, hd⟩ : ∃ d, m.decls[k] = d := ⟨_, rfl⟩
          obtain ⟨-, bd, od, na, nc, sa, sc, hda, hbd, htd, e0, e1, e2, e3, e4, e5, e6, e7, e8⟩ := (HM.out.decls.under (BW.out.mono hB)).elem hlt hd
          obtain ⟨-, be, oe, na', nc', sa', sc', hea, hbe, hte, f0, f1, f2, f3, f4, f5, f6, f7, f8⟩ := (HM'.out.decls.under (BW.out.mono hB)).elem hlt hd
          obtain rfl := hda
          obtain rfl := hea
          have hltI : (k : Int) < (m.decls.length : Int) := by omega
          have hk0 : (0 : Int) ≤ (k : Int) := by omega
          have hsz := BW.out.size
          have lbd : bd < wr.heap.size := by omega
          have lbe : be < wr.heap.size := by omega
          have hBr : B ≤ wr.heap.size := by omega
          have hc := fun W2 (hb : Below wr.heap.size wr W2) => rSame_c d.ty d.ty _ _ B W2 (htd.under (hb.mono hBr)) (hte.under (hb.mono hBr)) (Nat.le_trans hBr hb.size)
          rw [show alikeT d.ty d.ty = true from (alike_iff _ _).2 rfl] at hc
          simp only [tyCells] at hc
          have HC := Lib.hid hc
          clear hd hsz hc htd hte
          go_upto_region 11 with fail
          go_cut [7] (fun v w2 => v = .bool true ∧ Below wr.heap.size wr w2)
          case first =>
            refine wp_region_until [(12, fun w' => w'.cell? ⟨w.heap.size, 2, none⟩ = some (.slice (some ⟨bd, od, none⟩) m.decls.length dc) ∧ w'.cell? ⟨w.heap.size + 1, 2, none⟩ = some (.slice (some ⟨be, oe, none⟩) m.decls.length dc') ∧ w'.cell? ⟨bd, od + k * 9 + 2, none⟩ = some (.int .i64 d.ty.kind) ∧ w'.cell? ⟨bd, od + k * 9 + 3, none⟩ = some (.string d.ty.pkg) ∧ w'.cell? ⟨bd, od + k * 9 + 4, none⟩ = some (.int .i64 d.ty.major) ∧ w'.cell? ⟨bd, od + k * 9 + 5, none⟩ = some (.string d.ty.mod) ∧ w'.cell? ⟨bd, od + k * 9 + 6, none⟩ = some (.string d.ty.name) ∧ w'.cell? ⟨bd, od + k * 9 + 7, none⟩ = some (.slice na d.ty.names.length nc) ∧ w'.cell? ⟨bd, od + k * 9 + 8, none⟩ = some (.slice sa d.ty.subs.length sc) ∧ w'.cell? ⟨be, oe + k * 9 + 2, none⟩ = some (.int .i64 d.ty.kind) ∧ w'.cell? ⟨be, oe + k * 9 + 3, none⟩ = some (.string d.ty.pkg) ∧ w'.cell? ⟨be, oe + k * 9 + 4, none⟩ = some (.int .i64 d.ty.major) ∧ w'.cell? ⟨be, oe + k * 9 + 5, none⟩ = some (.string d.ty.mod) ∧ w'.cell? ⟨be, oe + k * 9 + 6, none⟩ = some (.string d.ty.name) ∧ w'.cell? ⟨be, oe + k * 9 + 7, none⟩ = some (.slice na' d.ty.names.length nc') ∧ w'.cell? ⟨be, oe + k * 9 + 8, none⟩ = some (.slice sa' d.ty.subs.length sc'))] (by kernel_rfl) (Until.cons (fun _ => ⟨x2, y2, e2, e3, e4, e5, e6, e7, e8, f2, f3, f4, f5, f6, f7, f8⟩) Until.nil) (fun hU => ?_)
            refine AnyU.take (i := 0) (v := ?_) rfl (by kernel_rfl) (by kernel_rfl) (by kernel_rfl) (fun _ _ _ h => h) (by kernel_rfl) (by assumption) (by rfl) ?_ (fun hV => ?_)
            rotate_left 1
            · (intro wq; go_simp; try with_reducible rfl)
            clear hU; have hU := hV; clear hV
            try simp only [Act.put, aput]
            refine AnyU.loadc (i := 1) (d := 12) [3, 4, 5, 12] (Si := fun w' => w'.cell? ⟨w.heap.size, 2, none⟩ = some (.slice (some ⟨bd, od, none⟩) m.decls.length dc) ∧ w'.cell? ⟨w.heap.size + 1, 2, none⟩ = some (.slice (some ⟨be, oe, none⟩) m.decls.length dc') ∧ w'.cell? ⟨bd, od + k * 9 + 2, none⟩ = some (.int .i64 d.ty.kind) ∧ w'.cell? ⟨bd, od + k * 9 + 3, none⟩ = some (.string d.ty.pkg) ∧ w'.cell? ⟨bd, od + k * 9 + 4, none⟩ = some (.int .i64 d.ty.major) ∧ w'.cell? ⟨bd, od + k * 9 + 5, none⟩ = some (.string d.ty.mod) ∧ w'.cell? ⟨bd, od + k * 9 + 6, none⟩ = some (.string d.ty.name) ∧ w'.cell? ⟨bd, od + k * 9 + 7, none⟩ = some (.slice na d.ty.names.length nc) ∧ w'.cell? ⟨bd, od + k * 9 + 8, none⟩ = some (.slice sa d.ty.subs.length sc) ∧ w'.cell? ⟨be, oe + k * 9 + 2, none⟩ = some (.int .i64 d.ty.kind) ∧ w'.cell? ⟨be, oe + k * 9 + 3, none⟩ = some (.string d.ty.pkg) ∧ w'.cell? ⟨be, oe + k * 9 + 4, none⟩ = some (.int .i64 d.ty.major) ∧ w'.cell? ⟨be, oe + k * 9 + 5, none⟩ = some (.string d.ty.mod) ∧ w'.cell? ⟨be, oe + k * 9 + 6, none⟩ = some (.string d.ty.name) ∧ w'.cell? ⟨be, oe + k * 9 + 7, none⟩ = some (.slice na' d.ty.names.length nc') ∧ w'.cell? ⟨be, oe + k * 9 + 8, none⟩ = some (.slice sa' d.ty.subs.length sc')) (v := ?_) rfl (by kernel_rfl) (by kernel_rfl) (by kernel_rfl) (fun _ _ _ h => h) (by kernel_rfl) (by assumption) (by kernel_rfl) rfl (by simp) (by rfl) ?_ (fun hV => ?_)
            rotate_left 1
            · (intro wq hq; obtain ⟨u0, -, -, -, -, -, -, -, -, -, -, -, -, -, -, -⟩ := hq; go_simp; try with_reducible rfl)
            clear hU; have hU := hV; clear hV
            try simp only [Act.put, aput]
            refine AnyU.take (i := 2) (v := ?_) rfl (by kernel_rfl) (by kernel_rfl) (by kernel_rfl) (fun _ _ _ h => h) (by kernel_rfl) (by assumption) (by rfl) ?_ (fun hV => ?_)
            rotate_left 1
            · (intro wq; go_simp; try with_reducible rfl)
            clear hU; have hU := hV; clear hV
            try simp only [Act.put, aput]
            refine AnyU.take (i := 3) (v := ?_) rfl (by kernel_rfl) (by kernel_rfl) (by kernel_rfl) (fun _ _ _ h => h) (by kernel_rfl) (by assumption) (by rfl) ?_ (fun hV => ?_)
            rotate_left 1
            · (intro wq; go_simp; try with_reducible rfl)
            clear hU; have hU := hV; clear hV
            try simp only [Act.put, aput]
            refine AnyU.take (i := 4) (v := ?_) rfl (by kernel_rfl) (by kernel_rfl) (by kernel_rfl) (fun _ _ _ h => h) (by kernel_rfl) (by assumption) (by rfl) ?_ (fun hV => ?_)
            rotate_left 1
            · (intro wq; go_simp; try with_reducible rfl)
            clear hU; have hU := hV; clear hV
            try simp only [Act.put, aput]
            refine AnyU.loadc (i := 5) (d := 12) [12] (Si := fun w' => w'.cell? ⟨w.heap.size, 2, none⟩ = some (.slice (some ⟨bd, od, none⟩) m.decls.length dc) ∧ w'.cell? ⟨w.heap.size + 1, 2, none⟩ = some (.slice (some ⟨be, oe, none⟩) m.decls.length dc') ∧ w'.cell? ⟨bd, od + k * 9 + 2, none⟩ = some (.int .i64 d.ty.kind) ∧ w'.cell? ⟨bd, od + k * 9 + 3, none⟩ = some (.string d.ty.pkg) ∧ w'.cell? ⟨bd, od + k * 9 + 4, none⟩ = some (.int .i64 d.ty.major) ∧ w'.cell? ⟨bd, od + k * 9 + 5, none⟩ = some (.string d.ty.mod) ∧ w'.cell? ⟨bd, od + k * 9 + 6, none⟩ = some (.string d.ty.name) ∧ w'.cell? ⟨bd, od + k * 9 + 7, none⟩ = some (.slice na d.ty.names.length nc) ∧ w'.cell? ⟨bd, od + k * 9 + 8, none⟩ = some (.slice sa d.ty.subs.length sc) ∧ w'.cell? ⟨be, oe + k * 9 + 2, none⟩ = some (.int .i64 d.ty.kind) ∧ w'.cell? ⟨be, oe + k * 9 + 3, none⟩ = some (.string d.ty.pkg) ∧ w'.cell? ⟨be, oe + k * 9 + 4, none⟩ = some (.int .i64 d.ty.major) ∧ w'.cell? ⟨be, oe + k * 9 + 5, none⟩ = some (.string d.ty.mod) ∧ w'.cell? ⟨be, oe + k * 9 + 6, none⟩ = some (.string d.ty.name) ∧ w'.cell? ⟨be, oe + k * 9 + 7, none⟩ = some (.slice na' d.ty.names.length nc') ∧ w'.cell? ⟨be, oe + k * 9 + 8, none⟩ = some (.slice sa' d.ty.subs.length sc')) (v := ?_) rfl (by kernel_rfl) (by kernel_rfl) (by kernel_rfl) (fun _ _ _ h => h) (by kernel_rfl) (by assumption) (by kernel_rfl) rfl (by simp) (by rfl) ?_ (fun hV => ?_)
            rotate_left 1
            · (intro wq hq; obtain ⟨-, -, u2, u3, u4, u5, u6, u7, u8, -, -, -, -, -, -, -⟩ := hq; go_simp; try with_reducible rfl)
            clear hU; have hU := hV; clear hV
            try simp only [Act.put, aput]
            refine AnyU.take (i := 6) (v := ?_) rfl (by kernel_rfl) (by kernel_rfl) (by kernel_rfl) (fun _ _ _ h => h) (by kernel_rfl) (by assumption) (by rfl) ?_ (fun hV => ?_)
            rotate_left 1
            · (intro wq; go_simp; try with_reducible rfl)
            clear hU; have hU := hV; clear hV
            try simp only [Act.put, aput]
            refine AnyU.loadc (i := 7) (d := 12) [9, 10, 11, 12] (Si := fun w' => w'.cell? ⟨w.heap.size, 2, none⟩ = some (.slice (some ⟨bd, od, none⟩) m.decls.length dc) ∧ w'.cell? ⟨w.heap.size + 1, 2, none⟩ = some (.slice (some ⟨be, oe, none⟩) m.decls.length dc') ∧ w'.cell? ⟨bd, od + k * 9 + 2, none⟩ = some (.int .i64 d.ty.kind) ∧ w'.cell? ⟨bd, od + k * 9 + 3, none⟩ = some (.string d.ty.pkg) ∧ w'.cell? ⟨bd, od + k * 9 + 4, none⟩ = some (.int .i64 d.ty.major) ∧ w'.cell? ⟨bd, od + k * 9 + 5, none⟩ = some (.string d.ty.mod) ∧ w'.cell? ⟨bd, od + k * 9 + 6, none⟩ = some (.string d.ty.name) ∧ w'.cell? ⟨bd, od + k * 9 + 7, none⟩ = some (.slice na d.ty.names.length nc) ∧ w'.cell? ⟨bd, od + k * 9 + 8, none⟩ = some (.slice sa d.ty.subs.length sc) ∧ w'.cell? ⟨be, oe + k * 9 + 2, none⟩ = some (.int .i64 d.ty.kind) ∧ w'.cell? ⟨be, oe + k * 9 + 3, none⟩ = some (.string d.ty.pkg) ∧ w'.cell? ⟨be, oe + k * 9 + 4, none⟩ = some (.int .i64 d.ty.major) ∧ w'.cell? ⟨be, oe + k * 9 + 5, none⟩ = some (.string d.ty.mod) ∧ w'.cell? ⟨be, oe + k * 9 + 6, none⟩ = some (.string d.ty.name) ∧ w'.cell? ⟨be, oe + k * 9 + 7, none⟩ = some (.slice na' d.ty.names.length nc') ∧ w'.cell? ⟨be, oe + k * 9 + 8, none⟩ = some (.slice sa' d.ty.subs.length sc')) (v := ?_) rfl (by kernel_rfl) (by kernel_rfl) (by kernel_rfl) (fun _ _ _ h => h) (by kernel_rfl) (by assumption) (by kernel_rfl) rfl (by simp) (by rfl) ?_ (fun hV => ?_)
            rotate_left 1
            · (intro wq hq; obtain ⟨-, u1, -, -, -, -, -, -, -, -, -, -, -, -, -, -⟩ := hq; go_simp; try with_reducible rfl)
            clear hU; have hU := hV; clear hV
            try simp only [Act.put, aput]
            refine AnyU.take (i := 8) (v := ?_) rfl (by kernel_rfl) (by kernel_rfl) (by kernel_rfl) (fun _ _ _ h => h) (by kernel_rfl) (by assumption) (by rfl) ?_ (fun hV => ?_)
            rotate_left 1
            · (intro wq; go_simp; try with_reducible rfl)
            clear hU; have hU := hV; clear hV
            try simp only [Act.put, aput]
            refine AnyU.take (i := 9) (v := ?_) rfl (by kernel_rfl) (by kernel_rfl) (by kernel_rfl) (fun _ _ _ h => h) (by kernel_rfl) (by assumption) (by rfl) ?_ (fun hV => ?_)
            rotate_left 1
            · (intro wq; go_simp; try with_reducible rfl)
            clear hU; have hU := hV; clear hV
            try simp only [Act.put, aput]
            refine AnyU.take (i := 10) (v := ?_) rfl (by kernel_rfl) (by kernel_rfl) (by kernel_rfl) (fun _ _ _ h => h) (by kernel_rfl) (by assumption) (by rfl) ?_ (fun hV => ?_)
            rotate_left 1
            · (intro wq; go_simp; try with_reducible rfl)
            clear hU; have hU := hV; clear hV
            try simp only [Act.put, aput]
            refine AnyU.loadc (i := 11) (d := 12) [12] (Si := fun w' => w'.cell? ⟨w.heap.size, 2, none⟩ = some (.slice (some ⟨bd, od, none⟩) m.decls.length dc) ∧ w'.cell? ⟨w.heap.size + 1, 2, none⟩ = some (.slice (some ⟨be, oe, none⟩) m.decls.length dc') ∧ w'.cell? ⟨bd, od + k * 9 + 2, none⟩ = some (.int .i64 d.ty.kind) ∧ w'.cell? ⟨bd, od + k * 9 + 3, none⟩ = some (.string d.ty.pkg) ∧ w'.cell? ⟨bd, od + k * 9 + 4, none⟩ = some (.int .i64 d.ty.major) ∧ w'.cell? ⟨bd, od + k * 9 + 5, none⟩ = some (.string d.ty.mod) ∧ w'.cell? ⟨bd, od + k * 9 + 6, none⟩ = some (.string d.ty.name) ∧ w'.cell? ⟨bd, od + k * 9 + 7, none⟩ = some (.slice na d.ty.names.length nc) ∧ w'.cell? ⟨bd, od + k * 9 + 8, none⟩ = some (.slice sa d.ty.subs.length sc) ∧ w'.cell? ⟨be, oe + k * 9 + 2, none⟩ = some (.int .i64 d.ty.kind) ∧ w'.cell? ⟨be, oe + k * 9 + 3, none⟩ = some (.string d.ty.pkg) ∧ w'.cell? ⟨be, oe + k * 9 + 4, none⟩ = some (.int .i64 d.ty.major) ∧ w'.cell? ⟨be, oe + k * 9 + 5, none⟩ = some (.string d.ty.mod) ∧ w'.cell? ⟨be, oe + k * 9 + 6, none⟩ = some (.string d.ty.name) ∧ w'.cell? ⟨be, oe + k * 9 + 7, none⟩ = some (.slice na' d.ty.names.length nc') ∧ w'.cell? ⟨be, oe + k * 9 + 8, none⟩ = some (.slice sa' d.ty.subs.length sc')) (v := ?_) rfl (by kernel_rfl) (by kernel_rfl) (by kernel_rfl) (fun _ _ _ h => h) (by kernel_rfl) (by assumption) (by kernel_rfl) rfl (by simp) (by rfl) ?_ (fun hV => ?_)
            rotate_left 1
            · (intro wq hq; obtain ⟨-, -, -, -, -, -, -, -, -, u9, u10, u11, u12, u13, u14, u15⟩ := hq; go_simp; try with_reducible rfl)
            clear hU; have hU := hV; clear hV
            try simp only [Act.put, aput]
            refine AnyU.ready1 (i := 12) (by kernel_rfl) (AnyU.one rfl fun K hK => ?_)
            go_simp
            go_at_call 28
            refine (HC.out wr.drew (Below.refl _ _).drew).mono ?_
            rintro e w2 ⟨rfl, hb⟩
            have hb2 : Below wr.heap.size wr w2 := (Below.refl _ _).drew.trans hb
            clear hb
            refine hK.out _ _ (Until.offT (by kernel_rfl)) (fun hV => ?_)
            clear hK K
            clear hU; have hU := hV; clear hV
            try simp only [Act.put, aput]
            refine AnyU.ready1 (i := 13) (by kernel_rfl) (AnyU.one rfl fun K hK => ?_)
            go_simp
            refine hK.out _ _ (Until.offT (by kernel_rfl)) (fun hV => ?_)
            clear hK K
            clear hU; have hU := hV; clear hV
            try simp only [Act.put, aput]
            refine AnyU.done (by kernel_rfl) ?_
            go_wp2_with fail
            go_meet
            exact ⟨rfl, hb2⟩
          case rest =>
            rename World => w2
            obtain ⟨rfl, hb2⟩ := hcut
            have r1 := R1.out.under hb2 R1.out.lt
            have r2 := R2.out.under hb2 R2.out.lt
            have e0 := (hb2.cell (p := ⟨bd, od + k * 9, none⟩) lbd).trans e0
            have e1 := (hb2.cell (p := ⟨bd, od + k * 9 + 1, none⟩) lbd).trans e1
            have f0 := (hb2.cell (p := ⟨be, oe + k * 9, none⟩) lbe).trans f0
            have f1 := (hb2.cell (p := ⟨be, oe + k * 9 + 1, none⟩) lbe).trans f1
            have lbd2 := Nat.lt_of_lt_of_le lbd hb2.size
            have lbe2 := Nat.lt_of_lt_of_le lbe hb2.size
            have B2 := Lib.hid (BK.out.trans (hb2.mono BK.out.size))
            clear x0 x1 x2 y0 y1 y2 l1 l2 e2 e3 e4 e5 e6 e7 e8 f2 f3 f4 f5 f6 f7 f8 hb2 HC lbd lbe
            obtain ⟨x0, x1, x2⟩ := cellsT3 r1
            obtain ⟨y0, y1, y2⟩ := cellsT3 r2
            have l1 := r1.lt
            have l2 := r2.lt
            clear r1 r2
            have hk3 : (d.kind != d.kind) = false := by simp
            have hn3 : (d.name.toList != d.name.toList) = false := by simp
            go_upto_region 12 with fail
            go_quiet (fail)
            go_wp2_with fail
            first
              | exact ⟨⟨k + 1, by go_num, by omega, below_drewN B2.out _⟩, by simp [intOf]; omega⟩
              | (go_roundw
                 case rel => exact ⟨k + 1, by go_num, by omega, below_drewN B2.out _⟩
                 case measure => simp [intOf]; omega)
        · obtain rfl : k = m.decls.length := by omega
          have hltI : ¬ (m.decls.length : Int) < (m.decls.length : Int) := by omega
          go_wp2_with fail
          go_ret
          exact ⟨rfl, BW.out⟩
end Go.Proofs.YtjeldfipipkfiaaGreat
