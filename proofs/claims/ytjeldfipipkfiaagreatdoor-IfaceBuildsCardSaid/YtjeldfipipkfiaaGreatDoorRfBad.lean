/- The contracts of merlonref07.bad at its four codes. Printed by mkrbad.py. -/
import Derived.Test.YtjeldfipipkfiaaGreatDoorRfMen
namespace Go.Proofs.YtjeldfipipkfiaaGreatDoor
open Go.RowKit
set_option linter.unusedSimpArgs false
set_option linter.unusedVariables false
set_option linter.unnecessarySimpa false
theorem twice_hit {ds : List Dcl} {i k : Nat} {d x : Dcl} (hi : i < ds.length) (hd : ds[i] = d) (hk : k < i) (hx : ds[k]'(by omega) = x) (h : likeD x d = true) : twiceB ds i = true := by
  rw [twiceB, List.getElem?_eq_getElem hi, hd]
  show (ds.take i).any _ = true
  rw [List.any_eq_true]
  exact ⟨x, by rw [← hx]; exact List.mem_take_iff_getElem.2 ⟨k, by omega, rfl⟩, h⟩
theorem twice_miss {ds : List Dcl} {i : Nat} {d : Dcl} (hi : i < ds.length) (hd : ds[i] = d) (h : ∀ j (hj : j < ds.length), j < i → likeD ds[j] d = false) : twiceB ds i = false := by
  rw [twiceB, List.getElem?_eq_getElem hi, hd]
  show (ds.take i).any _ = false
  rw [List.any_eq_false]
  intro x hx
  obtain ⟨k, hk, rfl⟩ := List.mem_take_iff_getElem.1 hx
  rw [h k (by omega) (by omega)]
  decide
structure Told10 (m : Mdl) (d : Dcl) (k : Nat) : Prop where
  out : ∀ j (h : j < m.decls.length), j < k → (reachF m.decls d.ty j && (m.decls[j].kind == 2)) = false
theorem Told10.zero (m : Mdl) (d : Dcl) : Told10 m d 0 := ⟨fun j _ h => absurd h (by omega)⟩
theorem unknown_hit {m : Mdl} {d : Dcl} {L : List Ty} (hL : localsT d.ty = L) {k : Nat} (hk : k < L.length) (h : knownL m L[k] = false) : unknownB m d = true := by
  subst hL
  rw [unknownB, List.any_eq_true]
  exact ⟨_, List.getElem_mem hk, by rw [h]; rfl⟩
theorem unknown_miss {m : Mdl} {d : Dcl} {L : List Ty} (hL : localsT d.ty = L) (h : ∀ j (hj : j < L.length), knownL m L[j] = true) : unknownB m d = false := by
  subst hL
  rw [unknownB, List.any_eq_false]
  intro x hx
  obtain ⟨k, hk, rfl⟩ := List.getElem_of_mem hx
  rw [h k hk]
  decide
set_option maxRecDepth 100000 in
set_option maxHeartbeats 8000000 in
theorem rBad5_c (m : Mdl) (ia : Option Addr) (ic : Nat) (da : Option Addr) (dc B : Nat) (i : Nat) (w : World) (hm : MdlC w B m ia ic da dc) (hB : B ≤ w.heap.size) (hl : m.decls.length ≤ 60) (hi : i < m.decls.length) (hmd : ∀ d ∈ m.decls, manyT d.ty ≤ 1000) :
    Calls Tryz.prog 52 #[.agg (mdlCells m ia ic da dc), .int .i64 i, .int .i64 5] w fun e w' => e = .returned (.bool (badD m 5 i)) ∧ Below w.heap.size w w' := by
  obtain ⟨d, hd⟩ : ∃ d, m.decls[i] = d := ⟨_, rfl⟩
  obtain ⟨hfd, bd, od, na', nc', sa', sc', hda, hbd, htd, e0, e1, e2, e3, e4, e5, e6, e7, e8⟩ := hm.decls.elem hi hd
  obtain rfl := hda
  have hbv : badD m 5 i = twiceB m.decls i := by rw [badD, List.getElem?_eq_getElem hi, hd]; rfl
  rw [hbv]
  clear hbv
  have HM := Lib.hid hm
  have HTD := Lib.hid htd
  have HD := Lib.hid hd
  have hiI : (i : Int) < (m.decls.length : Int) := by omega
  have hi0 : (0 : Int) ≤ (i : Int) := by omega
  have lbd : bd < w.heap.size := by omega
  obtain ⟨v, hv⟩ : ∃ v, twiceB m.decls i = v := ⟨_, rfl⟩
  rw [hv]
  have HV := Lib.hid hv
  clear hv
  clear hm htd hd hfd
  simp only [mdlCells]
  go_enter Tryz.func52, Tryz.ntmps52
  go_upto_region 1 with fail
  obtain ⟨W1, hWq, b1, hb1, hz1⟩ := laidNX w #[.string m.name, .slice ia m.imps.length ic, .slice (some ⟨bd, od, none⟩) m.decls.length dc] 25
  rewrite [← hWq]; clear hWq
  have e0 := (hb1.cell (p := ⟨bd, od + i * 9, none⟩) lbd).trans e0
  have e1 := (hb1.cell (p := ⟨bd, od + i * 9 + 1, none⟩) lbd).trans e1
  have e2 := (hb1.cell (p := ⟨bd, od + i * 9 + 2, none⟩) lbd).trans e2
  have e3 := (hb1.cell (p := ⟨bd, od + i * 9 + 3, none⟩) lbd).trans e3
  have e4 := (hb1.cell (p := ⟨bd, od + i * 9 + 4, none⟩) lbd).trans e4
  have e5 := (hb1.cell (p := ⟨bd, od + i * 9 + 5, none⟩) lbd).trans e5
  have e6 := (hb1.cell (p := ⟨bd, od + i * 9 + 6, none⟩) lbd).trans e6
  have e7 := (hb1.cell (p := ⟨bd, od + i * 9 + 7, none⟩) lbd).trans e7
  have e8 := (hb1.cell (p := ⟨bd, od + i * 9 + 8, none⟩) lbd).trans e8
  obtain ⟨x0, x1, x2⟩ := cellsT3 b1
  have lg0 := b1.lt
  have B1 := Lib.hid hb1
  have D1 := Lib.hid b1
  have lbd1 : bd < W1.heap.size := by omega
  clear hb1 b1
  go_upto_region 2 with fail
  clear e0 e1 e2 e3 e4 e5 e6 e7 e8 x0 x1 x2 lg0
  obtain ⟨W2, hWq, b2, hb2, hz2⟩ := laidNX W1 #[.int .i64 d.kind, .string d.name, .int .i64 d.ty.kind, .string d.ty.pkg, .int .i64 d.ty.major, .string d.ty.mod, .string d.ty.name, .slice na' d.ty.names.length nc', .slice sa' d.ty.subs.length sc'] 45
  rewrite [← hWq]; clear hWq
  rw [hz1] at b2
  have D1 := Lib.hid (D1.out.under hb2 D1.out.lt)
  have D2 := Lib.hid b2
  have B2 := Lib.hid (B1.out.trans (hb2.mono B1.out.size))
  have hB2 : B ≤ W2.heap.size := Nat.le_trans hB B2.out.size
  have HM2 := Lib.hid (HM.out.under (B2.out.mono hB))
  have HTD2 := Lib.hid (HTD.out.under (B2.out.mono hB))
  clear b2 hb2 B1 HM HTD hz1 hz2 lbd1
  go_wp2_with fail
  go_loopw [8] (fun iv wz => ∃ k : Nat, k ≤ i ∧ iv = .int .i64 k ∧ (∀ j (h : j < m.decls.length), j < k → likeD m.decls[j] d = false) ∧ Below W2.heap.size W2 wz) (fun iv _ => i - (intOf iv).toNat)
  case atStart => exact ⟨0, Nat.zero_le _, rfl, fun j _ h => absurd h (by omega), Below.refl _ _⟩
  case round =>
    rename World => wz
    obtain ⟨k, hk, rfl, hall, hbz⟩ := hrel
    have HA := Lib.hid hall
    have BZ := Lib.hid hbz
    have d1 := D1.out.under hbz D1.out.lt
    have d2 := D2.out.under hbz D2.out.lt
    obtain ⟨x0, x1, x2⟩ := cellsT3 d1
    obtain ⟨k0, k1, k2, k3, k4, k5, k6, k7, k8⟩ := cellsT9 d2
    have lg0 := d1.lt
    have lg1 := d2.lt
    clear hall hbz d1 d2 k2 k3 k4 k5 k6 k7 k8 x0 x1
    by_cases hlt : k < i
    · obtain ⟨x, hx⟩ : ∃ x, m.decls[k]'(by omega) = x := ⟨_, rfl⟩
      obtain ⟨-, bx, ox, -, -, -, -, hxa, -, -, f0, f1, -⟩ := (HM2.out.decls.under (BZ.out.mono hB2)).elem (by omega) hx
      injection hxa with hxa
      injection hxa with q1 q2
      subst q1 q2
      have hkI : (k : Int) < (i : Int) := by omega
      have hkL : (k : Int) < (m.decls.length : Int) := by omega
      have hk0 : (0 : Int) ≤ (k : Int) := by omega
      have lbz : bd < wz.heap.size := by have := BZ.out.size; omega
      have HX := Lib.hid hx
      have HNX := Lib.hid (show likeD x d = false → ∀ j (h : j < m.decls.length), j < k + 1 → likeD m.decls[j] d = false from fun hf j hj hjk => by
        by_cases e : j = k
        · subst e; rw [HX.out]; exact hf
        · exact HA.out j hj (by omega))
      clear hx
      cases hn : (x.name.toList == d.name.toList)
      · have HF := Lib.hid (HNX.out (by rw [likeD, hn]; rfl))
        go_upto_region 6 with fail
        go_quiet (fail)
        go_wp2_with fail
        first
          | exact ⟨⟨k + 1, by omega, by go_num, HF.out, below_drewN BZ.out _⟩, by simp [intOf]; omega⟩
          | (go_roundw
             case rel => exact ⟨k + 1, by omega, by go_num, HF.out, below_drewN BZ.out _⟩
             case measure => simp [intOf]; omega)
      · cases h4 : (x.kind == 4)
        all_goals cases h5 : (d.kind == 4)
        · have hr : v = true := HV.out.symm.trans (twice_hit hi HD.out hlt HX.out (by rw [likeD, hn, isVal, isVal, h4, h5]; rfl))
          subst hr
          go_upto_region 6 with fail
          go_quiet (fail)
          go_wp2_with fail
          go_ret
          exact ⟨rfl, B2.out.trans ((below_drewN BZ.out _).mono B2.out.size)⟩
        · have HF := Lib.hid (HNX.out (by rw [likeD, hn, isVal, isVal, h4, h5]; rfl))
          go_upto_region 6 with fail
          go_quiet (fail)
          go_wp2_with fail
          first
            | exact ⟨⟨k + 1, by omega, by go_num, HF.out, below_drewN BZ.out _⟩, by simp [intOf]; omega⟩
            | (go_roundw
               case rel => exact ⟨k + 1, by omega, by go_num, HF.out, below_drewN BZ.out _⟩
               case measure => simp [intOf]; omega)
        · have HF := Lib.hid (HNX.out (by rw [likeD, hn, isVal, isVal, h4, h5]; rfl))
          go_upto_region 6 with fail
          go_quiet (fail)
          go_wp2_with fail
          first
            | exact ⟨⟨k + 1, by omega, by go_num, HF.out, below_drewN BZ.out _⟩, by simp [intOf]; omega⟩
            | (go_roundw
               case rel => exact ⟨k + 1, by omega, by go_num, HF.out, below_drewN BZ.out _⟩
               case measure => simp [intOf]; omega)
        · have hr : v = true := HV.out.symm.trans (twice_hit hi HD.out hlt HX.out (by rw [likeD, hn, isVal, isVal, h4, h5]; rfl))
          subst hr
          go_upto_region 6 with fail
          go_quiet (fail)
          go_wp2_with fail
          go_ret
          exact ⟨rfl, B2.out.trans ((below_drewN BZ.out _).mono B2.out.size)⟩
    · obtain rfl : k = i := by omega
      have hkI : ¬ (k : Int) < (k : Int) := by omega
      have hr : v = false := HV.out.symm.trans (twice_miss hi HD.out HA.out)
      subst hr
      go_wp2_with fail
      go_ret
      exact ⟨rfl, B2.out.trans (BZ.out.mono B2.out.size)⟩
set_option maxRecDepth 100000 in
set_option maxHeartbeats 8000000 in
theorem rBad4_c (m : Mdl) (ia : Option Addr) (ic : Nat) (da : Option Addr) (dc B : Nat) (i : Nat) (w : World) (hm : MdlC w B m ia ic da dc) (hB : B ≤ w.heap.size) (hl : m.decls.length ≤ 60) (hi : i < m.decls.length) (hmd : ∀ d ∈ m.decls, manyT d.ty ≤ 1000) :
    Calls Tryz.prog 52 #[.agg (mdlCells m ia ic da dc), .int .i64 i, .int .i64 4] w fun e w' => e = .returned (.bool (badD m 4 i)) ∧ Below w.heap.size w w' := by
  obtain ⟨d, hd⟩ : ∃ d, m.decls[i] = d := ⟨_, rfl⟩
  obtain ⟨hfd, bd, od, na', nc', sa', sc', hda, hbd, htd, e0, e1, e2, e3, e4, e5, e6, e7, e8⟩ := hm.decls.elem hi hd
  obtain rfl := hda
  have hbv : badD m 4 i = unknownB m d := by rw [badD, List.getElem?_eq_getElem hi, hd]; rfl
  rw [hbv]
  clear hbv
  have HM := Lib.hid hm
  have HTD := Lib.hid htd
  have HD := Lib.hid hd
  have hiI : (i : Int) < (m.decls.length : Int) := by omega
  have hi0 : (0 : Int) ≤ (i : Int) := by omega
  have lbd : bd < w.heap.size := by omega
  obtain ⟨v, hv⟩ : ∃ v, unknownB m d = v := ⟨_, rfl⟩
  rw [hv]
  have HV := Lib.hid hv
  clear hv
  clear hm htd hd hfd
  simp only [mdlCells]
  go_enter Tryz.func52, Tryz.ntmps52
  go_upto_region 1 with fail
  obtain ⟨W1, hWq, b1, hb1, hz1⟩ := laidNX w #[.string m.name, .slice ia m.imps.length ic, .slice (some ⟨bd, od, none⟩) m.decls.length dc] 25
  rewrite [← hWq]; clear hWq
  have e0 := (hb1.cell (p := ⟨bd, od + i * 9, none⟩) lbd).trans e0
  have e1 := (hb1.cell (p := ⟨bd, od + i * 9 + 1, none⟩) lbd).trans e1
  have e2 := (hb1.cell (p := ⟨bd, od + i * 9 + 2, none⟩) lbd).trans e2
  have e3 := (hb1.cell (p := ⟨bd, od + i * 9 + 3, none⟩) lbd).trans e3
  have e4 := (hb1.cell (p := ⟨bd, od + i * 9 + 4, none⟩) lbd).trans e4
  have e5 := (hb1.cell (p := ⟨bd, od + i * 9 + 5, none⟩) lbd).trans e5
  have e6 := (hb1.cell (p := ⟨bd, od + i * 9 + 6, none⟩) lbd).trans e6
  have e7 := (hb1.cell (p := ⟨bd, od + i * 9 + 7, none⟩) lbd).trans e7
  have e8 := (hb1.cell (p := ⟨bd, od + i * 9 + 8, none⟩) lbd).trans e8
  obtain ⟨x0, x1, x2⟩ := cellsT3 b1
  have lg0 := b1.lt
  have B1 := Lib.hid hb1
  have D1 := Lib.hid b1
  have lbd1 : bd < W1.heap.size := by omega
  clear hb1 b1
  go_upto_region 2 with fail
  clear e0 e1 e2 e3 e4 e5 e6 e7 e8 x0 x1 x2 lg0
  obtain ⟨W2, hWq, b2, hb2, hz2⟩ := laidNX W1 #[.int .i64 d.kind, .string d.name, .int .i64 d.ty.kind, .string d.ty.pkg, .int .i64 d.ty.major, .string d.ty.mod, .string d.ty.name, .slice na' d.ty.names.length nc', .slice sa' d.ty.subs.length sc'] 45
  rewrite [← hWq]; clear hWq
  rw [hz1] at b2
  have D1 := Lib.hid (D1.out.under hb2 D1.out.lt)
  have D2 := Lib.hid b2
  have B2 := Lib.hid (B1.out.trans (hb2.mono B1.out.size))
  have hB2 : B ≤ W2.heap.size := Nat.le_trans hB B2.out.size
  have HM2 := Lib.hid (HM.out.under (B2.out.mono hB))
  have HTD2 := Lib.hid (HTD.out.under (B2.out.mono hB))
  clear b2 hb2 B1 HM HTD hz1 hz2 lbd1
  have hdm : manyT d.ty ≤ 1000 := hmd d (HD.out ▸ List.getElem_mem _)
  have hc1 := rLocals_c d.ty _ B W2 HTD2.out hB2 (by omega)
  obtain ⟨L, hL⟩ : ∃ L, localsT d.ty = L := ⟨_, rfl⟩
  obtain ⟨n, hn⟩ : ∃ n, L.length = n := ⟨_, rfl⟩
  have hnb : n ≤ 1000 := by have := locals_many d.ty; rw [hL, hn] at this; omega
  rw [hL] at hc1
  simp only [tyCells] at hc1
  have C1 := Lib.hid hc1
  have HL := Lib.hid hL
  have HN := Lib.hid hn
  obtain ⟨k0, k1, k2, k3, k4, k5, k6, k7, k8⟩ := cellsT9 D2.out
  have lg1 := D2.out.lt
  clear hc1 hL hn
  go_upto_region 11 with (go_at_call 74; refine C1.out.mono ?_; rintro e W3 ⟨v3, rfl, hv3, hb3⟩; obtain ⟨A3, c3', f3, rfl, hr3, ht3, -⟩ := hv3.atN HN.out; have HR3 := Lib.hid hr3; have HT3 := Lib.hid ht3; have HB3 := Lib.hid hb3; clear hv3 hb3 hr3 ht3)
  clear k0 k1 k2 k3 k4 k5 k6 k7 k8 lg1 C1
  have hB3 : B ≤ W3.heap.size := Nat.le_trans hB2 HB3.out.size
  go_wp2_with fail
  go_loopw [10] (fun kv wz => ∃ k : Nat, k ≤ n ∧ kv = .int .i64 k ∧ (∀ j (h : j < L.length), j < k → knownL m L[j] = true) ∧ Below W3.heap.size W3 wz) (fun kv _ => n - (intOf kv).toNat)
  case atStart => exact ⟨0, Nat.zero_le _, rfl, fun j _ h => absurd h (by omega), Below.refl _ _⟩
  case round =>
    rename World => wz
    obtain ⟨k, hk, rfl, hall, hbz⟩ := hrel
    have HA := Lib.hid hall
    have BZ := Lib.hid hbz
    have d1 := D1.out.under (HB3.out.trans (hbz.mono HB3.out.size)) D1.out.lt
    have BB := Lib.hid (B2.out.trans ((HB3.out.trans (hbz.mono HB3.out.size)).mono B2.out.size))
    obtain ⟨x0, x1, x2⟩ := cellsT3 d1
    have lg0 := d1.lt
    have hBz : B ≤ wz.heap.size := Nat.le_trans hB3 hbz.size
    clear hall d1
    by_cases hlt : k < n
    · obtain ⟨x, hx⟩ : ∃ x, L[k]'(by rw [HN.out]; exact hlt) = x := ⟨_, rfl⟩
      obtain ⟨b, o, nx, ncx, sx, scx, hA3, hbl, -, c0, c1, c2, c3, c4, c5, c6⟩ := TysV.elem hB3 HN.out HR3.out HT3.out (by rw [HN.out]; exact hlt) hx
      obtain rfl := hA3
      have c0 := (hbz.cell (p := ⟨b, o + k * 7, none⟩) hbl).trans c0
      have c1 := (hbz.cell (p := ⟨b, o + k * 7 + 1, none⟩) hbl).trans c1
      have c2 := (hbz.cell (p := ⟨b, o + k * 7 + 2, none⟩) hbl).trans c2
      have c3 := (hbz.cell (p := ⟨b, o + k * 7 + 3, none⟩) hbl).trans c3
      have c4 := (hbz.cell (p := ⟨b, o + k * 7 + 4, none⟩) hbl).trans c4
      have c5 := (hbz.cell (p := ⟨b, o + k * 7 + 5, none⟩) hbl).trans c5
      have c6 := (hbz.cell (p := ⟨b, o + k * 7 + 6, none⟩) hbl).trans c6
      have hkI : (k : Int) < (n : Int) := by omega
      have hk0 : (0 : Int) ≤ (k : Int) := by omega
      have lbz : b < wz.heap.size := by have := hbz.size; omega
      have HX := Lib.hid hx
      obtain ⟨kn, hkn⟩ : ∃ r, knownL m x = r := ⟨_, rfl⟩
      have hknc := fun W (hb : Below wz.heap.size wz W) => rKnown_c m ia ic (some ⟨bd, od, none⟩) dc B x nx ncx sx scx W (HM2.out.under (((HB3.out.trans (hbz.mono HB3.out.size)).mono hB2).trans (hb.mono hBz))) (Nat.le_trans hBz hb.size) (by omega)
      simp only [hkn, mdlCells, tyCells] at hknc
      have HKN := Lib.hid hknc
      have HK := Lib.hid hkn
      clear hx hknc hkn hbz
      go_upto_region 14 with fail
      go_cut [11] (fun q w4 => q = .bool kn ∧ Below wz.heap.size wz w4)
      case first =>
        refine wp_region_until [(5, fun w' => w'.cell? ⟨w.heap.size, 0, none⟩ = some (.string m.name) ∧ w'.cell? ⟨w.heap.size, 1, none⟩ = some (.slice ia m.imps.length ic) ∧ w'.cell? ⟨w.heap.size, 2, none⟩ = some (.slice (some ⟨bd, od, none⟩) m.decls.length dc) ∧ w'.cell? ⟨b, o + k * 7, none⟩ = some (.int .i64 x.kind) ∧ w'.cell? ⟨b, o + k * 7 + 1, none⟩ = some (.string x.pkg) ∧ w'.cell? ⟨b, o + k * 7 + 2, none⟩ = some (.int .i64 x.major) ∧ w'.cell? ⟨b, o + k * 7 + 3, none⟩ = some (.string x.mod) ∧ w'.cell? ⟨b, o + k * 7 + 4, none⟩ = some (.string x.name) ∧ w'.cell? ⟨b, o + k * 7 + 5, none⟩ = some (.slice nx x.names.length ncx) ∧ w'.cell? ⟨b, o + k * 7 + 6, none⟩ = some (.slice sx x.subs.length scx))] (by kernel_rfl) (Until.cons (fun _ => ⟨x0, x1, x2, c0, c1, c2, c3, c4, c5, c6⟩) Until.nil) (fun hU => ?_)
        refine AnyU.loadc (i := 0) (d := 5) [5] (Si := fun w' => w'.cell? ⟨w.heap.size, 0, none⟩ = some (.string m.name) ∧ w'.cell? ⟨w.heap.size, 1, none⟩ = some (.slice ia m.imps.length ic) ∧ w'.cell? ⟨w.heap.size, 2, none⟩ = some (.slice (some ⟨bd, od, none⟩) m.decls.length dc) ∧ w'.cell? ⟨b, o + k * 7, none⟩ = some (.int .i64 x.kind) ∧ w'.cell? ⟨b, o + k * 7 + 1, none⟩ = some (.string x.pkg) ∧ w'.cell? ⟨b, o + k * 7 + 2, none⟩ = some (.int .i64 x.major) ∧ w'.cell? ⟨b, o + k * 7 + 3, none⟩ = some (.string x.mod) ∧ w'.cell? ⟨b, o + k * 7 + 4, none⟩ = some (.string x.name) ∧ w'.cell? ⟨b, o + k * 7 + 5, none⟩ = some (.slice nx x.names.length ncx) ∧ w'.cell? ⟨b, o + k * 7 + 6, none⟩ = some (.slice sx x.subs.length scx)) (v := ?_) rfl (by kernel_rfl) (by kernel_rfl) (by kernel_rfl) (fun _ _ _ h => h) (by kernel_rfl) (by assumption) (by kernel_rfl) rfl (by simp) (by rfl) ?_ (fun hV => ?_)
        rotate_left 1
        · (intro wq hq; obtain ⟨u0, u1, u2, -⟩ := hq; go_simp; try with_reducible rfl)
        clear hU; have hU := hV; clear hV
        try simp only [Act.put, aput]
        refine AnyU.take (i := 1) (v := ?_) rfl (by kernel_rfl) (by kernel_rfl) (by kernel_rfl) (fun _ _ _ h => h) (by kernel_rfl) (by assumption) (by rfl) ?_ (fun hV => ?_)
        rotate_left 1
        · (intro wq; go_simp; try with_reducible rfl)
        clear hU; have hU := hV; clear hV
        try simp only [Act.put, aput]
        refine AnyU.take (i := 2) (v := ?_) rfl (by kernel_rfl) (by kernel_rfl) (by kernel_rfl) (fun _ _ _ h => h) (by kernel_rfl) (by assumption) (by rfl) ?_ (fun hV => ?_)
        rotate_left 1
        · (intro wq; go_simp; try with_reducible rfl)
        clear hU; have hU := hV; clear hV
        try simp only [Act.put, aput]
        refine AnyU.take (i := 3) (v := ?_) rfl (by kernel_rfl) (by kernel_rfl) (by kernel_rfl) (fun _ _ _ h => h) (by kernel_rfl) (by assumption) (by rfl) ?_ (fun hV => ?_)
        rotate_left 1
        · (intro wq; go_simp; try with_reducible rfl)
        clear hU; have hU := hV; clear hV
        try simp only [Act.put, aput]
        refine AnyU.loadc (i := 4) (d := 5) [5] (Si := fun w' => w'.cell? ⟨w.heap.size, 0, none⟩ = some (.string m.name) ∧ w'.cell? ⟨w.heap.size, 1, none⟩ = some (.slice ia m.imps.length ic) ∧ w'.cell? ⟨w.heap.size, 2, none⟩ = some (.slice (some ⟨bd, od, none⟩) m.decls.length dc) ∧ w'.cell? ⟨b, o + k * 7, none⟩ = some (.int .i64 x.kind) ∧ w'.cell? ⟨b, o + k * 7 + 1, none⟩ = some (.string x.pkg) ∧ w'.cell? ⟨b, o + k * 7 + 2, none⟩ = some (.int .i64 x.major) ∧ w'.cell? ⟨b, o + k * 7 + 3, none⟩ = some (.string x.mod) ∧ w'.cell? ⟨b, o + k * 7 + 4, none⟩ = some (.string x.name) ∧ w'.cell? ⟨b, o + k * 7 + 5, none⟩ = some (.slice nx x.names.length ncx) ∧ w'.cell? ⟨b, o + k * 7 + 6, none⟩ = some (.slice sx x.subs.length scx)) (v := ?_) rfl (by kernel_rfl) (by kernel_rfl) (by kernel_rfl) (fun _ _ _ h => h) (by kernel_rfl) (by assumption) (by kernel_rfl) rfl (by simp) (by rfl) ?_ (fun hV => ?_)
        rotate_left 1
        · (intro wq hq; obtain ⟨-, -, -, u0, u1, u2, u3, u4, u5, u6⟩ := hq; go_simp; try with_reducible rfl)
        clear hU; have hU := hV; clear hV
        try simp only [Act.put, aput]
        refine AnyU.ready1 (i := 5) (by kernel_rfl) (AnyU.one rfl fun K hK => ?_)
        go_simp
        go_at_call 75
        refine (HKN.out _ ((Below.refl _ _).drew)).mono ?_
        rintro e w4 ⟨rfl, hb⟩
        have HB4 := Lib.hid (show Below wz.heap.size wz w4 from (Below.refl _ _).drew.trans hb)
        clear hb
        refine hK.out _ _ (Until.offT (by kernel_rfl)) (fun hV => ?_)
        clear hK K
        clear hU; have hU := hV; clear hV
        try simp only [Act.put, aput]
        refine AnyU.take (i := 6) (v := ?_) rfl (by kernel_rfl) (by kernel_rfl) (by kernel_rfl) (fun _ _ _ h => h) (by kernel_rfl) (by assumption) (by rfl) ?_ (fun hV => ?_)
        rotate_left 1
        · (intro wq; go_simp; try with_reducible rfl)
        clear hU; have hU := hV; clear hV
        try simp only [Act.put, aput]
        refine AnyU.done (by kernel_rfl) ?_
        go_wp2_with fail
        go_meet
        exact ⟨rfl, HB4.out⟩
      case rest =>
        rename World => w4
        obtain ⟨rfl, hb4⟩ := hcut
        have HB4 := Lib.hid hb4
        clear hb4 x0 x1 x2 c0 c1 c2 c3 c4 c5 c6 lg0
        cases kn
        · have hr : v = true := HV.out.symm.trans (unknown_hit HL.out (by rw [HN.out]; exact hlt) (by rw [HX.out]; exact HK.out))
          subst hr
          go_wp2_with fail
          go_ret
          exact ⟨rfl, BB.out.trans (HB4.out.mono BB.out.size)⟩
        · have HF := Lib.hid (show ∀ j (h : j < L.length), j < k + 1 → knownL m L[j] = true from fun j hj hjk => by
            by_cases e : j = k
            · subst e; rw [HX.out]; exact HK.out
            · exact HA.out j hj (by omega))
          go_wp2_with fail
          first
            | exact ⟨⟨k + 1, by omega, by go_num, HF.out, BZ.out.trans (HB4.out.mono BZ.out.size)⟩, by simp [intOf]; omega⟩
            | (go_roundw
               case rel => exact ⟨k + 1, by omega, by go_num, HF.out, BZ.out.trans (HB4.out.mono BZ.out.size)⟩
               case measure => simp [intOf]; omega)
    · obtain rfl : k = n := by omega
      have hkI : ¬ (k : Int) < (k : Int) := by omega
      have hr : v = false := HV.out.symm.trans (unknown_miss HL.out fun j hj => HA.out j hj (by rw [← HN.out]; exact hj))
      subst hr
      go_wp2_with fail
      go_ret
      exact ⟨rfl, BB.out⟩
set_option maxRecDepth 100000 in
set_option maxHeartbeats 8000000 in
theorem rBad6_c (m : Mdl) (ia : Option Addr) (ic : Nat) (da : Option Addr) (dc B : Nat) (i : Nat) (w : World) (hm : MdlC w B m ia ic da dc) (hB : B ≤ w.heap.size) (hl : m.decls.length ≤ 60) (hi : i < m.decls.length) (hmd : ∀ d ∈ m.decls, manyT d.ty ≤ 1000) :
    Calls Tryz.prog 52 #[.agg (mdlCells m ia ic da dc), .int .i64 i, .int .i64 6] w fun e w' => e = .returned (.bool (badD m 6 i)) ∧ Below w.heap.size w w' := by
  obtain ⟨d, hd⟩ : ∃ d, m.decls[i] = d := ⟨_, rfl⟩
  obtain ⟨hfd, bd, od, na', nc', sa', sc', hda, hbd, htd, e0, e1, e2, e3, e4, e5, e6, e7, e8⟩ := hm.decls.elem hi hd
  obtain rfl := hda
  have hbv : badD m 6 i = circleB m.decls d := by rw [badD, List.getElem?_eq_getElem hi, hd]; rfl
  rw [hbv]
  clear hbv
  have HM := Lib.hid hm
  have HTD := Lib.hid htd
  have HD := Lib.hid hd
  have hiI : (i : Int) < (m.decls.length : Int) := by omega
  have hi0 : (0 : Int) ≤ (i : Int) := by omega
  have lbd : bd < w.heap.size := by omega
  obtain ⟨v, hv⟩ : ∃ v, circleB m.decls d = v := ⟨_, rfl⟩
  rw [hv]
  have HV := Lib.hid hv
  clear hv
  clear hm htd hd hfd
  simp only [mdlCells]
  go_enter Tryz.func52, Tryz.ntmps52
  go_upto_region 1 with fail
  obtain ⟨W1, hWq, b1, hb1, hz1⟩ := laidNX w #[.string m.name, .slice ia m.imps.length ic, .slice (some ⟨bd, od, none⟩) m.decls.length dc] 25
  rewrite [← hWq]; clear hWq
  have e0 := (hb1.cell (p := ⟨bd, od + i * 9, none⟩) lbd).trans e0
  have e1 := (hb1.cell (p := ⟨bd, od + i * 9 + 1, none⟩) lbd).trans e1
  have e2 := (hb1.cell (p := ⟨bd, od + i * 9 + 2, none⟩) lbd).trans e2
  have e3 := (hb1.cell (p := ⟨bd, od + i * 9 + 3, none⟩) lbd).trans e3
  have e4 := (hb1.cell (p := ⟨bd, od + i * 9 + 4, none⟩) lbd).trans e4
  have e5 := (hb1.cell (p := ⟨bd, od + i * 9 + 5, none⟩) lbd).trans e5
  have e6 := (hb1.cell (p := ⟨bd, od + i * 9 + 6, none⟩) lbd).trans e6
  have e7 := (hb1.cell (p := ⟨bd, od + i * 9 + 7, none⟩) lbd).trans e7
  have e8 := (hb1.cell (p := ⟨bd, od + i * 9 + 8, none⟩) lbd).trans e8
  obtain ⟨x0, x1, x2⟩ := cellsT3 b1
  have lg0 := b1.lt
  have B1 := Lib.hid hb1
  have D1 := Lib.hid b1
  have lbd1 : bd < W1.heap.size := by omega
  clear hb1 b1
  go_upto_region 2 with fail
  clear e0 e1 e2 e3 e4 e5 e6 e7 e8 x0 x1 x2 lg0
  obtain ⟨W2, hWq, b2, hb2, hz2⟩ := laidNX W1 #[.int .i64 d.kind, .string d.name, .int .i64 d.ty.kind, .string d.ty.pkg, .int .i64 d.ty.major, .string d.ty.mod, .string d.ty.name, .slice na' d.ty.names.length nc', .slice sa' d.ty.subs.length sc'] 45
  rewrite [← hWq]; clear hWq
  rw [hz1] at b2
  have D1 := Lib.hid (D1.out.under hb2 D1.out.lt)
  have D2 := Lib.hid b2
  have B2 := Lib.hid (B1.out.trans (hb2.mono B1.out.size))
  have hB2 : B ≤ W2.heap.size := Nat.le_trans hB B2.out.size
  have HM2 := Lib.hid (HM.out.under (B2.out.mono hB))
  have HTD2 := Lib.hid (HTD.out.under (B2.out.mono hB))
  clear b2 hb2 B1 HM HTD hz1 hz2 lbd1
  have hdm : manyT d.ty ≤ 1000 := hmd d (HD.out ▸ List.getElem_mem _)
  have hc1 := rReach_c m ia ic (some ⟨bd, od, none⟩) dc B d.ty _ W2 HM2.out HTD2.out hB2 hl hdm hmd
  simp only [mdlCells, tyCells] at hc1
  have C1 := Lib.hid hc1
  obtain ⟨x0, x1, x2⟩ := cellsT3 D1.out
  obtain ⟨k0, k1, k2, k3, k4, k5, k6, k7, k8⟩ := cellsT9 D2.out
  have lg0 := D1.out.lt
  have lg1 := D2.out.lt
  clear hc1
  go_upto_region 19 with (go_at_call 62; refine C1.out.mono ?_; rintro e W3 ⟨g, rfl, hg, hrow, hb3⟩; have HRow := Lib.hid hrow; have HB3 := Lib.hid hb3; clear hrow hb3)
  have d1 := D1.out.under HB3.out D1.out.lt
  have d2 := D2.out.under HB3.out D2.out.lt
  have D1 := Lib.hid d1
  have D2 := Lib.hid d2
  have hB3 : B ≤ W3.heap.size := Nat.le_trans hB2 HB3.out.size
  have B3 := Lib.hid (B2.out.trans (HB3.out.mono B2.out.size))
  have HM3 := Lib.hid (HM2.out.under (HB3.out.mono hB2))
  have hg3 : g < W3.heap.size := (owns_lt2 HRow.out rfl).2
  have hrc : ∀ j, j < m.decls.length → W3.cell? ⟨g, j, none⟩ = some (.bool (reachF m.decls d.ty j)) := fun j hj => by
    rw [HRow.out.cellAt j (by omega), List.getElem?_map, List.getElem?_map, List.getElem?_range hj]; rfl
  have HRC := Lib.hid hrc
  clear hrc d1 d2 x0 x1 x2 k0 k1 k2 k3 k4 k5 k6 k7 k8 lg0 lg1 C1
  have hfi := fun W (hb : Below W3.heap.size W3 W) => rFindD_c m d.name ia ic (some ⟨bd, od, none⟩) dc B W (HM3.out.under (hb.mono hB3)) (Nat.le_trans hB3 hb.size) (by omega)
  have HBC := Lib.hid (Below.refl W3.heap.size W3)
  obtain ⟨x0, x1, x2⟩ := cellsT3 D1.out
  obtain ⟨k0, k1, k2, k3, k4, k5, k6, k7, k8⟩ := cellsT9 D2.out
  have lg0 := D1.out.lt
  have lg1 := D2.out.lt
  clear k2 k3 k4 k5 k6 k7 k8
  cases h3 : (d.kind == 3)
  · have hr : v = false := by rw [← HV.out, ← circle_is, refCircle, h3]; rfl
    subst hr
    clear hfi
    go_wp2_with fail
    go_ret
    exact ⟨rfl, B3.out⟩
  · cases hf : findD m.decls d.name with
    | none =>
      have hr : v = false := by rw [← HV.out, ← circle_is, refCircle, h3, hf]; rfl
      subst hr
      have hq : idxP (isT d.name) m.decls = -1 := by rw [findF_idx, hf]
      simp only [hq, mdlCells] at hfi
      have HFI := Lib.hid hfi
      clear hfi hq hf
      go_wp2_with (go_at_call 104; refine (HFI.out _ HBC.out).mono ?_; rintro e w4 ⟨rfl, hb⟩; have D1 := Lib.hid (D1.out.under hb D1.out.lt); have D2 := Lib.hid (D2.out.under hb D2.out.lt); have HBC := Lib.hid (HBC.out.trans (hb.mono HBC.out.size)); clear hb x0 x1 x2 k0 k1 lg0 lg1; obtain ⟨x0, x1, x2⟩ := cellsT3 D1.out; obtain ⟨k0, k1, k2, k3, k4, k5, k6, k7, k8⟩ := cellsT9 D2.out; have lg0 := D1.out.lt; have lg1 := D2.out.lt; clear k2 k3 k4 k5 k6 k7 k8)
      go_ret
      exact ⟨rfl, B3.out.trans (HBC.out.mono B3.out.size)⟩
    | some j =>
      obtain ⟨hjl, -, -⟩ := findD_name hf
      have hr : reachF m.decls d.ty j = v := by rw [← HV.out, ← circle_is, refCircle, h3, hf]; rfl
      have hrc := HRC.out j hjl
      rw [hr] at hrc
      have HRJ := Lib.hid hrc
      have hq : idxP (isT d.name) m.decls = ((j : Nat) : Int) := by rw [findF_idx, hf]
      simp only [hq, mdlCells] at hfi
      have HFI := Lib.hid hfi
      have hjI : (j : Int) < (m.decls.length : Int) := by omega
      have hj0 : (0 : Int) ≤ (j : Int) := by omega
      clear hfi hq hf hr hrc
      go_wp2_with (go_at_call 104; refine (HFI.out _ HBC.out).mono ?_; rintro e w4 ⟨rfl, hb⟩; have D1 := Lib.hid (D1.out.under hb D1.out.lt); have D2 := Lib.hid (D2.out.under hb D2.out.lt); have HBC := Lib.hid (HBC.out.trans (hb.mono HBC.out.size)); clear hb x0 x1 x2 k0 k1 lg0 lg1; obtain ⟨x0, x1, x2⟩ := cellsT3 D1.out; obtain ⟨k0, k1, k2, k3, k4, k5, k6, k7, k8⟩ := cellsT9 D2.out; have lg0 := D1.out.lt; have lg1 := D2.out.lt; clear k2 k3 k4 k5 k6 k7 k8; have rc := (HBC.out.cell (p := ⟨g, j, none⟩) hg3).trans HRJ.out; have lgg := Nat.lt_of_lt_of_le hg3 HBC.out.size)
      go_ret
      first
        | exact ⟨rfl, B3.out.trans (HBC.out.mono B3.out.size)⟩
        | exact ⟨ret_b (by simp), B3.out.trans (HBC.out.mono B3.out.size)⟩
set_option maxRecDepth 100000 in
set_option maxHeartbeats 8000000 in
theorem rBad10_c (m : Mdl) (ia : Option Addr) (ic : Nat) (da : Option Addr) (dc B : Nat) (i : Nat) (w : World) (hm : MdlC w B m ia ic da dc) (hB : B ≤ w.heap.size) (hl : m.decls.length ≤ 60) (hi : i < m.decls.length) (hmd : ∀ d ∈ m.decls, manyT d.ty ≤ 1000) (hok : ∀ d ∈ m.decls, dclOk d = true) :
    Calls Tryz.prog 52 #[.agg (mdlCells m ia ic da dc), .int .i64 i, .int .i64 10] w fun e w' => e = .returned (.bool (badD m 10 i)) ∧ Below w.heap.size w w' := by
  obtain ⟨d, hd⟩ : ∃ d, m.decls[i] = d := ⟨_, rfl⟩
  obtain ⟨hfd, bd, od, na', nc', sa', sc', hda, hbd, htd, e0, e1, e2, e3, e4, e5, e6, e7, e8⟩ := hm.decls.elem hi hd
  obtain rfl := hda
  have hbv : badD m 10 i = hiddenB m.decls d := by rw [badD, List.getElem?_eq_getElem hi, hd]; rfl
  rw [hbv]
  clear hbv
  have HM := Lib.hid hm
  have HTD := Lib.hid htd
  have HD := Lib.hid hd
  have hiI : (i : Int) < (m.decls.length : Int) := by omega
  have hi0 : (0 : Int) ≤ (i : Int) := by omega
  have lbd : bd < w.heap.size := by omega
  obtain ⟨v, hv⟩ : ∃ v, hiddenB m.decls d = v := ⟨_, rfl⟩
  rw [hv]
  have HV := Lib.hid hv
  clear hv
  have HOK := Lib.hid (show dclOk d = true from hok d (hd ▸ List.getElem_mem _))
  clear hm htd hd hfd
  simp only [mdlCells]
  go_enter Tryz.func52, Tryz.ntmps52
  go_upto_region 1 with fail
  obtain ⟨W1, hWq, b1, hb1, hz1⟩ := laidNX w #[.string m.name, .slice ia m.imps.length ic, .slice (some ⟨bd, od, none⟩) m.decls.length dc] 25
  rewrite [← hWq]; clear hWq
  have e0 := (hb1.cell (p := ⟨bd, od + i * 9, none⟩) lbd).trans e0
  have e1 := (hb1.cell (p := ⟨bd, od + i * 9 + 1, none⟩) lbd).trans e1
  have e2 := (hb1.cell (p := ⟨bd, od + i * 9 + 2, none⟩) lbd).trans e2
  have e3 := (hb1.cell (p := ⟨bd, od + i * 9 + 3, none⟩) lbd).trans e3
  have e4 := (hb1.cell (p := ⟨bd, od + i * 9 + 4, none⟩) lbd).trans e4
  have e5 := (hb1.cell (p := ⟨bd, od + i * 9 + 5, none⟩) lbd).trans e5
  have e6 := (hb1.cell (p := ⟨bd, od + i * 9 + 6, none⟩) lbd).trans e6
  have e7 := (hb1.cell (p := ⟨bd, od + i * 9 + 7, none⟩) lbd).trans e7
  have e8 := (hb1.cell (p := ⟨bd, od + i * 9 + 8, none⟩) lbd).trans e8
  obtain ⟨x0, x1, x2⟩ := cellsT3 b1
  have lg0 := b1.lt
  have B1 := Lib.hid hb1
  have D1 := Lib.hid b1
  have lbd1 : bd < W1.heap.size := by omega
  clear hb1 b1
  go_upto_region 2 with fail
  clear e0 e1 e2 e3 e4 e5 e6 e7 e8 x0 x1 x2 lg0
  obtain ⟨W2, hWq, b2, hb2, hz2⟩ := laidNX W1 #[.int .i64 d.kind, .string d.name, .int .i64 d.ty.kind, .string d.ty.pkg, .int .i64 d.ty.major, .string d.ty.mod, .string d.ty.name, .slice na' d.ty.names.length nc', .slice sa' d.ty.subs.length sc'] 45
  rewrite [← hWq]; clear hWq
  rw [hz1] at b2
  have D1 := Lib.hid (D1.out.under hb2 D1.out.lt)
  have D2 := Lib.hid b2
  have B2 := Lib.hid (B1.out.trans (hb2.mono B1.out.size))
  have hB2 : B ≤ W2.heap.size := Nat.le_trans hB B2.out.size
  have HM2 := Lib.hid (HM.out.under (B2.out.mono hB))
  have HTD2 := Lib.hid (HTD.out.under (B2.out.mono hB))
  clear b2 hb2 B1 HM HTD hz1 hz2 lbd1
  have hdm : manyT d.ty ≤ 1000 := hmd d (HD.out ▸ List.getElem_mem _)
  have hc1 := rReach_c m ia ic (some ⟨bd, od, none⟩) dc B d.ty _ W2 HM2.out HTD2.out hB2 hl hdm hmd
  simp only [mdlCells, tyCells] at hc1
  have C1 := Lib.hid hc1
  obtain ⟨x0, x1, x2⟩ := cellsT3 D1.out
  obtain ⟨k0, k1, k2, k3, k4, k5, k6, k7, k8⟩ := cellsT9 D2.out
  have lg0 := D1.out.lt
  have lg1 := D2.out.lt
  clear hc1
  go_upto_region 19 with (go_at_call 62; refine C1.out.mono ?_; rintro e W3 ⟨g, rfl, hg, hrow, hb3⟩; have HRow := Lib.hid hrow; have HB3 := Lib.hid hb3; clear hrow hb3)
  have d1 := D1.out.under HB3.out D1.out.lt
  have d2 := D2.out.under HB3.out D2.out.lt
  have D1 := Lib.hid d1
  have D2 := Lib.hid d2
  have hB3 : B ≤ W3.heap.size := Nat.le_trans hB2 HB3.out.size
  have B3 := Lib.hid (B2.out.trans (HB3.out.mono B2.out.size))
  have HM3 := Lib.hid (HM2.out.under (HB3.out.mono hB2))
  have hg3 : g < W3.heap.size := (owns_lt2 HRow.out rfl).2
  have hrc : ∀ j, j < m.decls.length → W3.cell? ⟨g, j, none⟩ = some (.bool (reachF m.decls d.ty j)) := fun j hj => by
    rw [HRow.out.cellAt j (by omega), List.getElem?_map, List.getElem?_map, List.getElem?_range hj]; rfl
  have HRC := Lib.hid hrc
  clear hrc d1 d2 x0 x1 x2 k0 k1 k2 k3 k4 k5 k6 k7 k8 lg0 lg1 C1
  go_wp2_with fail
  go_loop [13] (fun kv => ∃ k : Nat, k ≤ m.decls.length ∧ kv = .int .i64 k ∧ Told10 m d k) (fun kv => m.decls.length - (intOf kv).toNat)
  case atStart => exact ⟨0, Nat.zero_le _, rfl, Told10.zero m d⟩
  case round =>
    obtain ⟨k, hk, rfl, hall⟩ := hrel
    have HA := Lib.hid hall.out
    clear hall
    obtain ⟨x0, x1, x2⟩ := cellsT3 D1.out
    obtain ⟨k0, k1, k2, k3, k4, k5, k6, k7, k8⟩ := cellsT9 D2.out
    have lg0 := D1.out.lt
    have lg1 := D2.out.lt
    clear k2 k3 k4 k5 k6 k7 k8
    clear k0 k1
    by_cases hlt : k < m.decls.length
    · obtain ⟨x, hx⟩ : ∃ x, m.decls[k] = x := ⟨_, rfl⟩
      obtain ⟨-, bx, ox, -, -, -, -, hxa, -, -, f0, -⟩ := HM3.out.decls.elem hlt hx
      injection hxa with hxa
      injection hxa with q1 q2
      subst q1 q2
      have hkI : (k : Int) < (m.decls.length : Int) := by omega
      have hk0 : (0 : Int) ≤ (k : Int) := by omega
      have lbz : bd < W3.heap.size := by omega
      obtain ⟨rk, hrk⟩ : ∃ r, reachF m.decls d.ty k = r := ⟨_, rfl⟩
      have rc := HRC.out k hlt
      rw [hrk] at rc
      have HRK := Lib.hid hrk
      have HX := Lib.hid hx
      have HNX := Lib.hid (show (rk && (x.kind == 2)) = false → ∀ j (h : j < m.decls.length), j < k + 1 → (reachF m.decls d.ty j && (m.decls[j].kind == 2)) = false from fun hf j hj hjk => by
        by_cases e : j = k
        · subst e; rw [HX.out, HRK.out]; exact hf
        · exact HA.out j hj (by omega))
      clear hx hrk
      cases rk
      · have HF := Lib.hid (HNX.out rfl)
        go_wp2_with fail
        first
          | exact ⟨⟨k + 1, by omega, by go_num, ⟨HF.out⟩⟩, by simp [intOf]; omega⟩
          | (go_round
             case rel => exact ⟨k + 1, by omega, by go_num, ⟨HF.out⟩⟩
             case measure => simp [intOf]; omega)
      · cases h2 : (x.kind == 2)
        · have HF := Lib.hid (HNX.out (by rw [h2]; rfl))
          go_wp2_with fail
          first
            | exact ⟨⟨k + 1, by omega, by go_num, ⟨HF.out⟩⟩, by simp [intOf]; omega⟩
            | (go_round
               case rel => exact ⟨k + 1, by omega, by go_num, ⟨HF.out⟩⟩
               case measure => simp [intOf]; omega)
        · have hr : v = true := by
            rw [← HV.out, ← hidden_is HOK.out, refHidden, List.any_eq_true]
            exact ⟨k, List.mem_range.2 hlt, by rw [HRK.out, List.getElem?_eq_getElem hlt, HX.out]; exact h2⟩
          subst hr
          go_wp2_with fail
          go_ret
          exact ⟨rfl, B3.out⟩
    · obtain rfl : k = m.decls.length := by omega
      have hkI : ¬ (m.decls.length : Int) < (m.decls.length : Int) := by omega
      have hr : v = false := by
        rw [← HV.out, ← hidden_is HOK.out, refHidden, List.any_eq_false]
        intro j hj
        have hj := List.mem_range.1 hj
        rw [List.getElem?_eq_getElem hj]
        have := HA.out j hj hj
        intro e
        rw [show (reachF m.decls d.ty j && (m.decls[j].kind == 2)) = true from e] at this
        cases this
      subst hr
      go_wp2_with fail
      go_ret
      exact ⟨rfl, B3.out⟩
end Go.Proofs.YtjeldfipipkfiaaGreatDoor
