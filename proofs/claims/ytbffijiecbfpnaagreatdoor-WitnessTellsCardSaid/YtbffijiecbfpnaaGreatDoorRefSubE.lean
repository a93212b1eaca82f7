/- One case of the contract of merlonref09.Sub. -/
import Derived.Test.YtbffijiecbfpnaaGreatDoorRefSubB
namespace Go.Proofs.YtbffijiecbfpnaaGreatDoor
open Go.RowKit
set_option linter.unusedSimpArgs false
set_option linter.unusedVariables false
set_option maxRecDepth 100000 in
set_option maxHeartbeats 4000000 in
theorem refSub_5 (n : Nat) (HI : Hid (RefSubC n)) (a b : Ty) (cs cs' : Array Value) (B : Nat) (w : World) (ha : TyC w B a cs) (hb : TyC w B b cs') (hB : B ≤ w.heap.size)
    (ma : mayT a = true) (mb : mayT b = true) (da : deepT a ≤ n + 1) (db : deepT b ≤ n + 1) (hk : a.kind = b.kind) (h4 : ¬ a.kind = 4) (h5 : a.kind = 5) :
    Calls Tryz.prog 60 #[.agg cs, .agg cs'] w fun e w' => e = .returned (.bool (subF (n + 1) a b)) ∧ Below w.heap.size w w' := by
  obtain ⟨na, nc, sa, sc, f, rfl, -, hn, hs, -, -, hsub⟩ := ha.inv
  obtain ⟨na', nc', sa', sc', f', rfl, -, hn', hs', -, -, hsub'⟩ := hb.inv
  have HA := Lib.hid ha
  have HB := Lib.hid hb
  have HN := Lib.hid hn
  have HN' := Lib.hid hn'
  have HS := Lib.hid hs
  have HS' := Lib.hid hs'
  have HU := Lib.hid hsub
  have HU' := Lib.hid hsub'
  have MA := Lib.hid ma
  have MB := Lib.hid mb
  have hl1 := may_small ma
  have hl2 := may_small mb
  clear ha hb hn hn' hs hs' hsub hsub' ma mb
  go_enter Tryz.func60, Tryz.ntmps60
  have hacc : Below w.heap.size w ((w.alloc (.cells (tyCells a na nc sa sc) 41)).alloc (.cells (tyCells b na' nc' sa' sc') 41)) := ((Below.refl _ _).alloc (Nat.le_refl _) _).alloc (by simp) _
  have hbx := (boxes w (tyCells a na nc sa sc) (tyCells b na' nc' sa' sc') 41).1
  have hby := (boxes w (tyCells a na nc sa sc) (tyCells b na' nc' sa' sc') 41).2
  simp only [tyCells] at hacc hbx hby ⊢
  have HK := Lib.hid hk
  rw [← hk] at hacc hbx hby ⊢
  clear hk
  have hq := Lib.hid (show subF (n + 1) a b = coverL (subF n) a b.names b.subs by rw [subF, if_pos HK.out, if_neg h4, if_pos h5])
  have H5 := Lib.hid h5
  have hra : RowsOk a := may_rows MA.out (.inl h5)
  have hrb : RowsOk b := may_rows MB.out (.inl (HK.out ▸ h5))
  have hla := hra.len
  have hlb := hrb.len
  rw [h5] at hacc hbx hby ⊢
  clear h4 h5 hra hrb
  go_wp2
  generalize ((w.alloc (.cells #[.int .i64 5, .string a.pkg, .int .i64 a.major, .string a.mod, .string a.name, .slice na a.names.length nc, .slice sa a.subs.length sc] 41)).alloc (.cells #[.int .i64 5, .string b.pkg, .int .i64 b.major, .string b.mod, .string b.name, .slice na' b.names.length nc', .slice sa' b.subs.length sc'] 41)) = W at hacc hbx hby ⊢
  go_loopw [5] (fun i wr => ∃ k : Nat, k ≤ b.names.length ∧ i = .int .i64 k ∧ Below w.heap.size w wr ∧ BoxAt wr w.heap.size #[.int .i64 5, .string a.pkg, .int .i64 a.major, .string a.mod, .string a.name, .slice na a.names.length nc, .slice sa a.subs.length sc] ∧ BoxAt wr (w.heap.size + 1) #[.int .i64 5, .string b.pkg, .int .i64 b.major, .string b.mod, .string b.name, .slice na' b.names.length nc', .slice sa' b.subs.length sc'] ∧ coverL (subF n) a (b.names.drop k) (b.subs.drop k) = subF (n + 1) a b) (fun i _ => b.names.length - (intOf i).toNat)
  case atStart => exact ⟨0, Nat.zero_le _, rfl, hacc, hbx, hby, hq.out.symm⟩
  case round =>
    clear hacc hbx hby
    obtain ⟨k, hk, rfl, hacc, hbx, hby, heq⟩ := hrel
    have HQ := Lib.hid heq
    have HX := Lib.hid hbx
    have HY := Lib.hid hby
    obtain ⟨hx1, hx2⟩ := hbx
    obtain ⟨hy1, hy2⟩ := hby
    have hsz := hacc.size
    clear heq
    by_cases hlt : k < b.names.length
    · have hlt' : k < b.subs.length := by omega
      have hk20 : k < 20 := by omega
      rcases HN'.out with hr | ⟨bn, on, rfl, hbn, hc⟩
      · rw [hr] at hlt; simp at hlt
      have hck : wr.cell? ⟨bn, on + k, none⟩ = some (.string b.names[k]) := (hacc.cell (p := ⟨bn, on + k, none⟩) (by simp; omega)).trans (hc k hlt)
      have hdrop := Lib.hid (coverL_drop (r := (subF n)) (a := a) hlt hlt')
      clear hc
      go_wp2
      go_still_tail 7, (by kernel_rfl)
      change wpList _ _ _ _ _ wr.drew
      go_wp2_with fail
      refine (refOf_c na nc B a.names b.names[k] wr.drew (by omega) ((HN.out.keep fun p hp => hacc.cell (p := p) (by omega)).keep fun _ _ => rfl)).mono ?_
      rintro e w1 ⟨rfl, rfl⟩
      have hacc1 := hacc.drew
      have hbx1 := HX.out.under ((Below.refl wr.heap.size wr).drew)
      have hby1 := HY.out.under ((Below.refl wr.heap.size wr).drew)
      clear hx1 hx2 hy1 hy2 hacc hck hsz HX HY
      generalize wr.drew = W1 at hacc1 hbx1 hby1 ⊢
      have HX := Lib.hid hbx1
      have HY := Lib.hid hby1
      obtain ⟨hx1, hx2⟩ := hbx1
      obtain ⟨hy1, hy2⟩ := hby1
      have hsz := hacc1.size
      cases hm : memB b.names[k] a.names
      · rw [ofI_miss hm]
        go_wp2
        go_ret
        have h := HQ.out
        rw [hdrop.out, hm, Bool.false_and, Bool.false_and] at h
        exact ⟨ret_b h, hacc1⟩
      · rw [ofI_hit hm]
        have hq2 : firstOf a.names b.names[k] < a.subs.length := Nat.lt_of_lt_of_le (firstOf_lt hm) (by omega)
        have HOT := Lib.hid (ofT_at hm hq2)
        have HM := Lib.hid hm
        generalize hj : firstOf a.names b.names[k] = j at *
        clear hj hm
        have hT1 := (HU.out j hq2).under (hacc1.mono hB)
        have hT2 := (HU'.out k hlt').under (hacc1.mono hB)
        obtain ⟨b1, o1, na1, nc1, sa1, sc1, rfl, hbb1, hfk1, c0, c1, c2, c3, c4, c5, c6⟩ := TyC.elem (HS.out.keep fun p hp => hacc1.cell (p := p) (by omega)) hq2 hT1
        obtain ⟨b2, o2, na2, nc2, sa2, sc2, rfl, hbb2, hfk2, d0, d1, d2, d3, d4, d5, d6⟩ := TyC.elem (HS'.out.keep fun p hp => hacc1.cell (p := p) (by omega)) hlt' hT2
        rw [hfk1] at hT1
        rw [hfk2] at hT2
        have HT1 := Lib.hid hT1
        have HT2 := Lib.hid hT2
        have hnn : ((j : Int) < 0) = False := by simp
        have hlt2 : k + 1 ≤ b.names.length := hlt
        clear hfk1 hfk2 hT1 hT2 hla hlb hl1 hl2
        go_wp2
        go_still_tail 10, (by kernel_rfl)
        change wpList _ _ _ _ _ W1.drew
        go_wp2_with fail
        refine (HI.out (a.subs[j]'hq2) (b.subs[k]'hlt') _ _ B W1.drew (HT1.out.keep fun _ _ => rfl) (HT2.out.keep fun _ _ => rfl) (Nat.le_trans hB hsz)
          (may_child MA.out (List.getElem_mem _)) (may_child MB.out (List.getElem_mem _)) (by have := deep_child (t := a) (List.getElem_mem hq2); omega) (by have := deep_child (t := b) (List.getElem_mem hlt'); omega)).mono ?_
        rintro e w2 ⟨rfl, hb2⟩
        have hacc2 : Below w.heap.size w w2 := acc0 hacc1.drew hsz hb2
        have hb3 : Below W1.heap.size W1 w2 := (Below.refl _ _).drew.trans hb2
        cases hr : subF n (a.subs[j]'hq2) (b.subs[k]'hlt')
        · go_wp2
          go_ret
          have h := HQ.out
          rw [hdrop.out, HM.out, HOT.out, hr, Bool.and_false, Bool.false_and] at h
          exact ⟨ret_b h, hacc2⟩
        · go_wp2
          have h := HQ.out
          rw [hdrop.out, HM.out, HOT.out, hr, Bool.true_and, Bool.true_and] at h
          first
            | exact ⟨⟨k + 1, by omega, by go_num, hacc2, HX.out.under hb3, HY.out.under hb3, h⟩, by simp [intOf]; omega⟩
            | (go_roundw
               case rel => exact ⟨k + 1, by omega, by go_num, hacc2, HX.out.under hb3, HY.out.under hb3, h⟩
               case measure => simp [intOf]; omega)
    · go_wp2
      go_ret
      have h := HQ.out
      rw [coverL_end (by omega)] at h
      exact ⟨ret_b h, hacc⟩
end Go.Proofs.YtbffijiecbfpnaaGreatDoor
