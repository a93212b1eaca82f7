/- The contract of merlonref04.Same; no condition but those of Go's own values. -/
import Derived.Test.YtjeldfipipkfiaaGreatDoorRefMay
import Derived.StillTailTactics
namespace Go.Proofs.YtjeldfipipkfiaaGreatDoor
open Go.RowKit
set_option linter.unusedSimpArgs false
set_option linter.unusedVariables false
def flat7 (a b : Ty) : Bool := flat5 a b && ((a.names.length : Int) == (b.names.length : Int)) && ((a.subs.length : Int) == (b.subs.length : Int))
theorem alike_flat7 {a b : Ty} (h : flat7 a b = false) : alikeT a b = false := by
  cases h5 : flat5 a b
  · exact alike_flat5 h5
  · rw [flat7, h5, Bool.true_and, Bool.and_eq_false_iff] at h
    rw [alike_of5 h5]
    rcases h with h | h
    · rw [equalB_len (by intro e; rw [e] at h; simp at h), Bool.false_and]
    · rw [alikeL_len (by intro e; rw [e] at h; simp at h), Bool.and_false]
theorem equalB_drop {l m : List ByteArray} {k : Nat} (h1 : k < l.length) (h2 : k < m.length) : equalB (l.drop k) (m.drop k) = ((l[k].toList == m[k].toList) && equalB (l.drop (k + 1)) (m.drop (k + 1))) := by
  rw [List.drop_eq_getElem_cons h1, List.drop_eq_getElem_cons h2, equalB]
set_option maxRecDepth 100000 in
set_option maxHeartbeats 4000000 in
theorem rSame_c (a : Ty) : ∀ (b : Ty) (cs cs' : Array Value) (B : Nat) (w : World), TyC w B a cs → TyC w B b cs' → B ≤ w.heap.size →
    Calls Tryz.prog 31 #[.agg cs, .agg cs'] w fun e w' => e = .returned (.bool (alikeT a b)) ∧ Below w.heap.size w w' := by
  induction a using Ty.ind with
  | h a ih =>
    intro b cs cs' B w ha hb hB
    obtain ⟨na, nc, sa, sc, f, rfl, hf, hn, hs, hnc, hsc, hsub⟩ := ha.inv
    obtain ⟨na', nc', sa', sc', f', rfl, hf', hn', hs', hnc', hsc', hsub'⟩ := hb.inv
    cases h7 : flat7 a b
    · have H7 := Lib.hid h7
      have HR := Lib.hid (alike_flat7 h7)
      clear h7 ih hf hf' hn hn' hs hs' hsub hsub' ha hb
      go_enter Tryz.func31, Tryz.ntmps31
      simp only [tyCells]
      go_wp2_with fail
      all_goals first
        | (go_ret
           exact ⟨ret_b HR.out.symm, ((Below.refl _ _).alloc (Nat.le_refl _) _).alloc (by simp) _⟩)
        | (exfalso
           have h := H7.out
           go_tidy
           simp_all [flat7, flat5])
    · have hh := h7
      rw [flat7, Bool.and_eq_true, Bool.and_eq_true] at hh
      obtain ⟨⟨h5, hl1⟩, hl2⟩ := hh
      have HR := Lib.hid (alike_of5 h5)
      obtain ⟨k, p, m, mo, n, ns, ss⟩ := a
      obtain ⟨k', p', m', mo', n', ns', ss'⟩ := b
      obtain ⟨rfl, rfl, rfl, rfl, rfl⟩ := flat5_eq h5
      have e1 : ns.length = ns'.length := by have := beq_iff_eq.1 hl1; simp only [Ty.names] at this; omega
      have e2 : ss.length = ss'.length := by have := beq_iff_eq.1 hl2; simp only [Ty.subs] at this; omega
      have HE1 := Lib.hid e1
      have HE2 := Lib.hid e2
      have HI := Lib.hid ih
      have HN := Lib.hid hn
      have HN' := Lib.hid hn'
      have HS := Lib.hid hs
      have HS' := Lib.hid hs'
      have HU := Lib.hid hsub
      have HU' := Lib.hid hsub'
      have hnm : ns.length ≤ maxLen := hf.names
      have hsm : ss.length ≤ maxLen := hf.subs
      unfold maxLen at hnm hsm
      clear ih ha hb hf hf' hn hn' hs hs' hsub hsub' h5 h7 hl1 hl2 e1 e2
      go_enter Tryz.func31, Tryz.ntmps31
      simp only [tyCells, Ty.kind, Ty.pkg, Ty.major, Ty.mod, Ty.name, Ty.names, Ty.subs]
      rw [← HE1.out, ← HE2.out]
      go_wp2
      go_loopw [5] (fun i wr => ∃ j : Nat, j ≤ ns.length ∧ i = .int .i64 j ∧ Below w.heap.size w wr ∧ BoxAt wr w.heap.size (tyCells (.mk k p m mo n ns ss) na nc sa sc) ∧ BoxAt wr (w.heap.size + 1) (tyCells (.mk k p m mo n ns' ss') na' nc' sa' sc') ∧ equalB (ns.drop j) (ns'.drop j) = equalB ns ns') (fun i _ => ns.length - (intOf i).toNat)
      case atStart =>
        have hy : tyCells (.mk k p m mo n ns' ss') na' nc' sa' sc' = #[.int .i64 k, .string p, .int .i64 m, .string mo, .string n, .slice na' ns.length nc', .slice sa' ss.length sc'] := by
          simp only [tyCells, Ty.kind, Ty.pkg, Ty.major, Ty.mod, Ty.name, Ty.names, Ty.subs]
          rw [← HE1.out, ← HE2.out]
        refine ⟨0, Nat.zero_le _, rfl, ((Below.refl _ _).alloc (Nat.le_refl _) _).alloc (by simp) _, (boxes w _ _ _).1, ?_, rfl⟩
        rw [hy]
        exact (boxes w _ _ _).2
      case round =>
        obtain ⟨j, hj, rfl, hacc, hbx, hby, heq⟩ := hrel
        have HQ := Lib.hid heq
        have HX := Lib.hid hbx
        have HY := Lib.hid hby
        obtain ⟨hx1, hx2⟩ := hbx
        obtain ⟨hy1, hy2⟩ := hby
        simp only [tyCells, Ty.kind, Ty.pkg, Ty.major, Ty.mod, Ty.name, Ty.names, Ty.subs] at hx2 hy2
        rw [← HE1.out, ← HE2.out] at hy2
        have hsz := hacc.size
        clear heq
        by_cases hlt : j < ns.length
        · have hlt' : j < ns'.length := by have := HE1.out; omega
          rcases HN.out with hr | ⟨b, o, rfl, hb, hc⟩
          · simp only [Ty.names] at hr; rw [hr] at hlt; simp at hlt
          rcases HN'.out with hr' | ⟨b', o', rfl, hb', hc'⟩
          · simp only [Ty.names] at hr'; rw [hr'] at hlt'; simp at hlt'
          have h1 : wr.cell? ⟨b, o + j, none⟩ = some (.string ns[j]) := (hacc.cell (p := ⟨b, o + j, none⟩) (by simp; omega)).trans (hc j hlt)
          have h2 : wr.cell? ⟨b', o' + j, none⟩ = some (.string ns'[j]) := (hacc.cell (p := ⟨b', o' + j, none⟩) (by simp; omega)).trans (hc' j hlt')
          have hdrop := Lib.hid (equalB_drop hlt hlt')
          clear hc hc'
          by_cases hx : ns[j] = ns'[j]
          · have hq := ba_yes hx
            have HX' := Lib.hid hx
            clear hx
            go_wp2
            go_quiet (fail)
            go_wp2
            refine ⟨⟨j + 1, by omega, by go_num, below_drewN hacc _, HX.out.under (below_drewN (Below.refl _ _) _), HY.out.under (below_drewN (Below.refl _ _) _), ?_⟩, by simp [intOf]; omega⟩
            have h := HQ.out
            rwa [hdrop.out, hq, Bool.true_and] at h
          · have hq := ba_no hx
            have HX' := Lib.hid hx
            clear hx
            go_wp2
            go_quiet (fail)
            go_wp2
            go_ret
            have h := HQ.out
            rw [hdrop.out, hq, Bool.false_and] at h
            exact ⟨ret_b (by rw [HR.out]; show _ = (equalB ns ns' && _); rw [← h]; rfl), below_drewN hacc _⟩
        · obtain rfl : j = ns.length := by omega
          have hen : equalB ns ns' = true := by
            have h := HQ.out
            rw [List.drop_of_length_le (by omega), List.drop_of_length_le (by have := HE1.out; omega)] at h
            exact h.symm
          have HEN := Lib.hid hen
          clear hen HQ
          obtain ⟨wo, rfl⟩ : ∃ wo : World, wo = wr := ⟨_, rfl⟩
          go_wp2
          go_loopw [6] (fun i wr => ∃ j : Nat, j ≤ ss.length ∧ i = .int .i64 j ∧ Below w.heap.size w wr ∧ BoxAt wr w.heap.size (tyCells (.mk k p m mo n ns ss) na nc sa sc) ∧ BoxAt wr (w.heap.size + 1) (tyCells (.mk k p m mo n ns' ss') na' nc' sa' sc') ∧ alikeL (ss.drop j) (ss'.drop j) = alikeL ss ss') (fun i _ => ss.length - (intOf i).toNat)
          case atStart => exact ⟨0, Nat.zero_le _, rfl, hacc, HX.out, HY.out, rfl⟩
          case round =>
            clear hx1 hx2 hy1 hy2 hsz hacc HX HY
            obtain ⟨i, hi, rfl, hacc, hbx, hby, heq⟩ := hrel
            have HQ := Lib.hid heq
            have HX := Lib.hid hbx
            have HY := Lib.hid hby
            obtain ⟨hx1, hx2⟩ := hbx
            obtain ⟨hy1, hy2⟩ := hby
            simp only [tyCells, Ty.kind, Ty.pkg, Ty.major, Ty.mod, Ty.name, Ty.names, Ty.subs] at hx2 hy2
            rw [← HE1.out, ← HE2.out] at hy2
            have hsz := hacc.size
            clear heq
            by_cases hlt : i < ss.length
            · have hlt' : i < ss'.length := by have := HE2.out; omega
              have hT : TyC wr B ss[i] (f i) := (HU.out i hlt).under (hacc.mono hB)
              have hT' : TyC wr B ss'[i] (f' i) := (HU'.out i hlt').under (hacc.mono hB)
              obtain ⟨b, o, na1, nc1, sa1, sc1, rfl, hbb, hfk, c0, c1, c2, c3, c4, c5, c6⟩ := TyC.elem (HS.out.keep fun p hp => hacc.cell (p := p) (by omega)) (show i < _ from hlt) hT
              obtain ⟨b', o', na2, nc2, sa2, sc2, rfl, hbb', hfk', d0, d1, d2, d3, d4, d5, d6⟩ := TyC.elem (HS'.out.keep fun p hp => hacc.cell (p := p) (by omega)) (show i < _ from hlt') hT'
              have HK := Lib.hid hfk
              have HK' := Lib.hid hfk'
              have hdrop := Lib.hid (alikeL_drop hlt hlt')
              clear hfk hfk'
              go_wp2
              go_still_tail 10, (by kernel_rfl)
              change wpList _ _ _ _ _ wr.drew
              go_wp2_with fail
              have hcall := HI.out ss[i] (List.getElem_mem hlt) ss'[i] _ _ B wr.drew (hT.keep fun _ _ => rfl) (hT'.keep fun _ _ => rfl) (Nat.le_trans hB hsz)
              rw [HK.out, HK'.out] at hcall
              refine hcall.mono ?_
              clear hcall
              rintro e w1 ⟨rfl, hb1⟩
              have hacc1 : Below w.heap.size w w1 := acc0 hacc.drew hsz hb1
              have hb2 : Below wr.heap.size wr w1 := (Below.refl _ _).drew.trans hb1
              cases hx : alikeT ss[i] ss'[i]
              · go_wp2
                go_ret
                have h := HQ.out
                rw [hdrop.out, hx, Bool.false_and] at h
                exact ⟨ret_b (by rw [HR.out]; show _ = (equalB ns ns' && alikeL ss ss'); rw [HEN.out, ← h]; rfl), hacc1⟩
              · go_wp2
                have h := HQ.out
                rw [hdrop.out, hx, Bool.true_and] at h
                first
                  | exact ⟨⟨i + 1, by omega, by go_num, hacc1, HX.out.under hb2, HY.out.under hb2, h⟩, by simp [intOf]; omega⟩
                  | (go_roundw
                     case rel => exact ⟨i + 1, by omega, by go_num, hacc1, HX.out.under hb2, HY.out.under hb2, h⟩
                     case measure => simp [intOf]; omega)
            · go_wp2
              go_ret
              have h := HQ.out
              rw [List.drop_of_length_le (by omega), List.drop_of_length_le (by have := HE2.out; omega)] at h
              exact ⟨ret_b (by rw [HR.out]; show _ = (equalB ns ns' && alikeL ss ss'); rw [HEN.out, ← h]; rfl), hacc⟩
end Go.Proofs.YtjeldfipipkfiaaGreatDoor
