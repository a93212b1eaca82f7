/- One case of the contract of merlonref09.Sub. -/
import Derived.Test.YtbffijiecbfpnaaGreatDoorRefSubB
namespace Go.Proofs.YtbffijiecbfpnaaGreatDoor
open Go.RowKit
set_option linter.unusedSimpArgs false
set_option linter.unusedVariables false
set_option maxRecDepth 100000 in
set_option maxHeartbeats 4000000 in
theorem refSub_4 (n : Nat) (HI : Hid (RefSubC n)) (a b : Ty) (cs cs' : Array Value) (B : Nat) (w : World) (ha : TyC w B a cs) (hb : TyC w B b cs') (hB : B ≤ w.heap.size)
    (ma : mayT a = true) (mb : mayT b = true) (da : deepT a ≤ n + 1) (db : deepT b ≤ n + 1) (hk : a.kind = b.kind) (h4 : a.kind = 4) :
    Calls Tryz.prog 60 #[.agg cs, .agg cs'] w fun e w' => e = .returned (.bool (subF (n + 1) a b)) ∧ Below w.heap.size w w' := by
  obtain ⟨na, nc, sa, sc, f, rfl, -, hn, hs, -, -, hsub⟩ := ha.inv
  obtain ⟨na', nc', sa', sc', f', rfl, -, hn', hs', -, -, hsub'⟩ := hb.inv
  have HA := Lib.hid ha
  have HB := Lib.hid hb
  have HN := Lib.hid hn
  have HN' := Lib.hid hn'
  have HS := Lib.hid hs
  have HS' := Lib.hid hs'
  have HU := Lib.hid hsub
  have HU' := Lib.hid hsub'
  have MA := Lib.hid ma
  have MB := Lib.hid mb
  have hl1 := may_small ma
  have hl2 := may_small mb
  clear ha hb hn hn' hs hs' hsub hsub' ma mb
  go_enter Tryz.func60, Tryz.ntmps60
  have hacc : Below w.heap.size w ((w.alloc (.cells (tyCells a na nc sa sc) 41)).alloc (.cells (tyCells b na' nc' sa' sc') 41)) := ((Below.refl _ _).alloc (Nat.le_refl _) _).alloc (by simp) _
  have hbx := (boxes w (tyCells a na nc sa sc) (tyCells b na' nc' sa' sc') 41).1
  have hby := (boxes w (tyCells a na nc sa sc) (tyCells b na' nc' sa' sc') 41).2
  simp only [tyCells] at hacc hbx hby ⊢
  have HK := Lib.hid hk
  rw [← hk] at hacc hbx hby ⊢
  clear hk
  have H4 := Lib.hid h4
  have hq := Lib.hid (show subF (n + 1) a b = subF n (a.subs.getD 0 zeroTy) (b.subs.getD 0 zeroTy) by rw [subF, if_pos HK.out, if_pos h4])
  have hz1 : a.subs.length = 1 := may_list MA.out h4
  have hz2 : b.subs.length = 1 := may_list MB.out (HK.out ▸ h4)
  have HZ1 := Lib.hid hz1
  have HZ2 := Lib.hid hz2
  have hc1 := HS.out
  have hc2 := HS'.out
  rw [hz1] at hc1
  rw [hz2] at hc2
  rw [h4, hz1, hz2] at hacc hbx hby ⊢
  clear h4 hl1 hl2
  have hT : TyC w B (a.subs[0]'(by rw [HZ1.out]; decide)) (f 0) := HU.out 0 (by rw [HZ1.out]; decide)
  have hT' : TyC w B (b.subs[0]'(by rw [HZ2.out]; decide)) (f' 0) := HU'.out 0 (by rw [HZ2.out]; decide)
  clear hz1 hz2
  go_wp2_with fail
  generalize ((w.alloc (.cells #[.int .i64 4, .string a.pkg, .int .i64 a.major, .string a.mod, .string a.name, .slice na a.names.length nc, .slice sa 1 sc] 41)).alloc (.cells #[.int .i64 4, .string b.pkg, .int .i64 b.major, .string b.mod, .string b.name, .slice na' b.names.length nc', .slice sa' 1 sc'] 41)) = W at hacc hbx hby ⊢
  have hsz := hacc.size
  have hT1 := hT.under (hacc.mono hB)
  have hT2 := hT'.under (hacc.mono hB)
  obtain ⟨b1, o1, na1, nc1, sa1, sc1, rfl, hbb1, hfk1, c0, c1, c2, c3, c4, c5, c6⟩ := TyC.elem (hc1.keep fun p hp => hacc.cell (p := p) (by omega)) (Nat.zero_lt_one) hT1
  obtain ⟨b2, o2, na2, nc2, sa2, sc2, rfl, hbb2, hfk2, d0, d1, d2, d3, d4, d5, d6⟩ := TyC.elem (hc2.keep fun p hp => hacc.cell (p := p) (by omega)) (Nat.zero_lt_one) hT2
  rw [hfk1] at hT1
  rw [hfk2] at hT2
  have HT1 := Lib.hid hT1
  have HT2 := Lib.hid hT2
  simp only [Nat.zero_mul, Nat.add_zero] at c0 c1 c2 c3 c4 c5 c6 d0 d1 d2 d3 d4 d5 d6
  have hx1 := hbx.1
  have hx2 := hbx.2
  have hy1 := hby.1
  have hy2 := hby.2
  clear hfk1 hfk2 hT1 hT2 hT hT' hc1 hc2 hbx hby
  go_still_tail 8, (by kernel_rfl)
  change wpList _ _ _ _ _ W.drew
  go_wp2_with fail
  refine (HI.out (a.subs[0]'(by rw [HZ1.out]; decide)) (b.subs[0]'(by rw [HZ2.out]; decide)) _ _ B W.drew (HT1.out.keep fun _ _ => rfl) (HT2.out.keep fun _ _ => rfl) (Nat.le_trans hB hsz)
    (may_child MA.out (List.getElem_mem _)) (may_child MB.out (List.getElem_mem _)) (by have := deep_child (t := a) (List.getElem_mem (show 0 < a.subs.length by have := HZ1.out; omega)); omega) (by have := deep_child (t := b) (List.getElem_mem (show 0 < b.subs.length by have := HZ2.out; omega)); omega)).mono ?_
  rintro e w1 ⟨rfl, hb1⟩
  go_wp2
  go_ret
  refine ⟨ret_b ?_, acc0 hacc.drew hsz hb1⟩
  rw [hq.out, getD_at, getD_at]
end Go.Proofs.YtbffijiecbfpnaaGreatDoor
