/- The contract of merlonref08.There: thereF. -/
import Derived.Test.YtjeldfipipkfiaaGreatDoorRfFnd
namespace Go.Proofs.YtjeldfipipkfiaaGreatDoor
open Go.RowKit
set_option linter.unusedSimpArgs false
set_option linter.unusedVariables false
theorem posE_cases (l : List If) (s : Imp) : (posE l s = -1 ∧ l.find? (isIf s) = none) ∨ ∃ p, ∃ h : p < l.length, posE l s = (p : Nat) ∧ l.find? (isIf s) = some l[p] := by
  cases hq : l.findIdx? (isIf s) with
  | none =>
    refine .inl ⟨by rw [posE, hq], ?_⟩
    rw [List.findIdx?_eq_none_iff] at hq
    exact List.find?_eq_none.2 fun x hx => by rw [hq x hx]; decide
  | some p =>
    refine .inr ⟨p, ?_⟩
    obtain ⟨hp, h1, h2⟩ := List.findIdx?_eq_some_iff_getElem.1 hq
    exact ⟨hp, by rw [posE, hq], find_at hp (fun i hi => by simpa using h2 i hi) h1⟩
theorem ofN_cases (l : List Nm) (s : ByteArray) : (ofN l s = -1 ∧ l.find? (isNm s) = none) ∨ ∃ p, ∃ h : p < l.length, ofN l s = (p : Nat) ∧ l.find? (isNm s) = some l[p] := by
  cases hq : l.findIdx? (fun x => x.name.toList == s.toList) with
  | none =>
    refine .inl ⟨by rw [ofN, hq], ?_⟩
    rw [List.findIdx?_eq_none_iff] at hq
    exact List.find?_eq_none.2 fun x hx => by rw [isNm, hq x hx]; decide
  | some p =>
    refine .inr ⟨p, ?_⟩
    obtain ⟨hp, h1, h2⟩ := List.findIdx?_eq_some_iff_getElem.1 hq
    exact ⟨hp, by rw [ofN, hq], find_at hp (fun i hi => by simpa [isNm] using h2 i hi) h1⟩
theorem refFind_b (A : Option Addr) (c B : Nat) (l : List If) (s : Imp) (w : World) (h1 : IfsAt w B A l) (hB : B ≤ w.heap.size) (hl : l.length ≤ 1000000) :
    Calls Tryz.prog 28 #[.slice A l.length c, .string s.pkg, .int .i64 s.major, .string s.mod] w fun e w' => e = .returned (.int .i64 (posE l s)) ∧ Below w.heap.size w w' :=
  (refFind_c A c B l s w h1 hB hl).mono fun e w' h => ⟨h.1, by rw [h.2]; exact Below.refl _ _⟩
theorem refOfN_b (A : Option Addr) (c B : Nat) (l : List Nm) (s : ByteArray) (w : World) (h1 : NmsAt w B A l) (hB : B ≤ w.heap.size) (hl : l.length ≤ 1000) :
    Calls Tryz.prog 30 #[.slice A l.length c, .string s] w fun e w' => e = .returned (.int .i64 (ofN l s)) ∧ Below w.heap.size w w' :=
  (refOfN_c A c B l s w h1 hB hl).mono fun e w' h => ⟨h.1, by rw [h.2]; exact Below.refl _ _⟩
theorem fewI_x {l : List If} (h : FewI l = true) {x : If} (hx : x ∈ l) : x.types.length ≤ 200 ∧ x.types.all (fun n => FewB n.ty) = true := by
  rw [FewI, Bool.and_eq_true, List.all_eq_true] at h
  have := h.2 x hx
  simp only [fewX, fewN, Bool.and_eq_true, decide_eq_true_eq] at this
  exact ⟨by omega, this.2.2.1⟩
set_option maxRecDepth 100000 in
set_option maxHeartbeats 40000000 in
theorem refThere_c (B : Nat) (m : Mdl) (ia : Option Addr) (ic : Nat) (da : Option Addr) (dc : Nat) (env : List If) (ea : Option Addr) (ec : Nat) (t : Ty) (cs : Array Value) (w : World) (hm : MdlC w B m ia ic da dc) (hni : m.imps.length ≤ 1000000) (he : IfsAt w B ea env) (hfe : FewI env = true) (ht : TyC w B t cs) (hB : B ≤ w.heap.size) :
    Calls Tryz.prog 133 #[.agg (mdlCells m ia ic da dc), .slice ea env.length ec, .agg cs] w fun e w' => ∃ cs, e = .returned (.tuple #[.agg cs, .bool (thereF m env t).2]) ∧ TyC w' B (thereF m env t).1 cs ∧ Below w.heap.size w w' := by
  obtain ⟨na, nc, sa, sc, f0, rfl, -⟩ := ht.inv
  have HM := Lib.hid hm
  have HE := Lib.hid he
  have HFE := Lib.hid hfe
  obtain ⟨⟨R1, R2⟩, hR⟩ : ∃ R, thereF m env t = R := ⟨_, rfl⟩
  rw [hR]
  have HR := Lib.hid hR
  clear hm he hfe ht hR
  simp only [tyCells, mdlCells]
  go_enter Tryz.func133, Tryz.ntmps133
  go_upto_region 1 with fail
  obtain ⟨W, hWq, d0, d1, d2, hz, hb⟩ := threeMX w #[.string m.name, .slice ia m.imps.length ic, .slice da m.decls.length dc] #[.int .i64 t.kind, .string t.pkg, .int .i64 t.major, .string t.mod, .string t.name, .slice na t.names.length nc, .slice sa t.subs.length sc] #[.int .i64 0, .string { data := #[] }, .int .i64 0, .string { data := #[] }, .string { data := #[] }, .slice none 0 0, .slice none 0 0] 25 29 29
  rewrite [← hWq]; clear hWq
  have HB := Lib.hid hb
  have D0 := Lib.hid d0
  have D1 := Lib.hid d1
  have D2 := Lib.hid d2
  clear hb d0 d1 d2
  go_wp2_with fail
  go_loopw [8] (fun iv wr => ∃ k : Nat, k ≤ m.imps.length ∧ iv = .int .i64 k ∧ Below W.heap.size W wr ∧ ∀ i (h : i < k) (h2 : i < m.imps.length), isImp t.mod m.imps[i] = false) (fun iv _ => m.imps.length - (intOf iv).toNat)
  case atStart => exact ⟨0, Nat.zero_le _, rfl, Below.refl _ _, fun i hi => absurd hi (by omega)⟩
  case round =>
    rename World => wr
    obtain ⟨k, hk, rfl, hbr, hall⟩ := hrel
    have HBR := Lib.hid hbr
    have HA := Lib.hid hall
    have BC := Lib.hid (HB.out.trans (hbr.mono HB.out.size))
    have DM := Lib.hid (D0.out.under hbr D0.out.lt)
    have DL := Lib.hid (D1.out.under hbr D1.out.lt)
    have DO := Lib.hid (D2.out.under hbr D2.out.lt)
    have hsr : w.heap.size + 1 + 1 + 1 ≤ wr.heap.size := by have := hbr.size; omega
    clear hbr hall
    obtain ⟨m0, m1, m2⟩ := cellsT3 DM.out
    have ml := DM.out.lt
    by_cases hlt : k < m.imps.length
    · obtain ⟨x, hx⟩ : ∃ x, m.imps[k] = x := ⟨_, rfl⟩
      obtain ⟨hfx, b, o, hia, hbB, c0, c1, c2, c3⟩ := (HM.out.imps.under (BC.out.mono hB)).elem hlt hx
      obtain rfl := hia
      have lb : b < wr.heap.size := by omega
      have hkI : (k : Int) < (m.imps.length : Int) := by omega
      have hk0 : (0 : Int) ≤ (k : Int) := by omega
      have HX := Lib.hid hx
      clear hx hfx
      go_upto_region 5 with fail
      clear c0 c1 c2 c3 m0 m1 m2 ml
      obtain ⟨W3, hWq, bN, hb, hzN⟩ := laidNX wr #[.string x.pkg, .int .i64 x.major, .string x.mod, .string x.asN] 55
      rewrite [← hWq]; clear hWq
      have HB3 := Lib.hid hb
      have DM := Lib.hid (DM.out.under hb DM.out.lt)
      have DL := Lib.hid (DL.out.under hb DL.out.lt)
      have DO := Lib.hid (DO.out.under hb DO.out.lt)
      have BC := Lib.hid (BC.out.trans (hb.mono BC.out.size))
      have DX := Lib.hid bN
      clear bN hb hzN
      obtain ⟨m0, m1, m2⟩ := cellsT3 DM.out
      have ml := DM.out.lt
      obtain ⟨k0, k1, k2, k3, k4, k5, k6⟩ := cellsT7 DL.out
      have kl := DL.out.lt
      obtain ⟨e0, e1, e2, e3, e4, e5, e6⟩ := cellsT7 DO.out
      have el := DO.out.lt
      obtain ⟨y0, y1, y2, y3⟩ := cellsT4 DX.out
      have yl := DX.out.lt
      obtain ⟨a, ha⟩ : ∃ a, isImp t.mod x = a := ⟨_, rfl⟩
      have HAA := Lib.hid ha
      have ha' : (x.asN.toList == t.mod.toList) = a := ha
      clear ha
      cases a
      · have HB3 := Lib.hid (show Below wr.heap.size wr W3 from HB3.out)
        go_wp2_with fail
        have hnew : ∀ i (h : i < k + 1) (h2 : i < m.imps.length), isImp t.mod m.imps[i] = false := fun i hi h2 => by
          by_cases e : i = k
          · subst e; rw [HX.out]; exact HAA.out
          · exact HA.out i (by omega) h2
        exact ⟨⟨k + 1, by omega, by go_num, HBR.out.trans (HB3.out.mono HBR.out.size), hnew⟩, by simp [intOf]; omega⟩
      · have HFD := Lib.hid (show m.imps.find? (isImp t.mod) = some x by rw [← HX.out]; exact find_at hlt (fun i hi => HA.out i hi (by omega)) (by rw [HX.out]; exact HAA.out))
        have hle : env.length ≤ 200 := by have := HFE.out; rw [FewI, Bool.and_eq_true, decide_eq_true_eq] at this; exact this.1
        have KF := fun W (hb : Below w.heap.size w W) => refFind_b ea ec B env x W (HE.out.under (hb.mono hB)) (Nat.le_trans hB hb.size) (by omega)
        rcases posE_cases env x with ⟨hp, hnf⟩ | ⟨p, hpl, hp, hnf⟩
        · simp only [hp] at KF
          have HKF := Lib.hid KF
          have NF := Lib.hid hnf
          clear KF hp hnf hle
          go_wp2_with (go_at_call 28; refine (HKF.out _ BC.out).mono ?_; rintro e wn ⟨rfl, hb⟩; have DM := Lib.hid (DM.out.under hb DM.out.lt); have DL := Lib.hid (DL.out.under hb DL.out.lt); have DO := Lib.hid (DO.out.under hb DO.out.lt); have DX := Lib.hid (DX.out.under hb DX.out.lt); have BC := Lib.hid (BC.out.trans (hb.mono BC.out.size)); have f0 := DO.out.free 0; have f1 := DO.out.free 1; have f2 := DO.out.free 2; have f3 := DO.out.free 3; have f4 := DO.out.free 4; have f5 := DO.out.free 5; have f6 := DO.out.free 6; clear hb; clear m0 m1 m2 k0 k1 k2 k3 k4 k5 k6 e0 e1 e2 e3 e4 e5 e6 y0 y1 y2 y3 ml kl el yl; obtain ⟨m0, m1, m2⟩ := cellsT3 DM.out; have ml := DM.out.lt; obtain ⟨k0, k1, k2, k3, k4, k5, k6⟩ := cellsT7 DL.out; have kl := DL.out.lt; obtain ⟨e0, e1, e2, e3, e4, e5, e6⟩ := cellsT7 DO.out; have el := DO.out.lt; obtain ⟨y0, y1, y2, y3⟩ := cellsT4 DX.out; have yl := DX.out.lt)
          have hres := HR.out.symm.trans (show thereF m env t = (zT, false) by rw [thereF, HFD.out]; simp only [NF.out])
          obtain ⟨rfl, rfl⟩ := Prod.mk.inj hres
          clear hres
          obtain ⟨Wz, hWq, hp, hbp⟩ := st7 (.int .i64 0) (.string { data := #[] }) (.int .i64 0) (.string { data := #[] }) (.string { data := #[] }) (.slice none 0 0) (.slice none 0 0) DO.out BC.out (show w.heap.size ≤ w.heap.size + 1 + 1 by omega)
          rewrite [← hWq]; clear hWq
          obtain ⟨r0, r1, r2, r3, r4, r5, r6⟩ := cellsT7 hp
          refine bodyPost_ret (by simp [results, Tryz.results133, go_sem, r0, r1, r2, r3, r4, r5, r6]; try rfl) rfl ?_
          exact ⟨_, rfl, zT_c _ _, hbp⟩
        · simp only [hp] at KF
          have HKF := Lib.hid KF
          obtain ⟨f, hf⟩ : ∃ f, env[p] = f := ⟨_, rfl⟩
          rw [hf] at hnf
          have NF0 := Lib.hid hnf
          have hpI : ¬ (p : Int) < 0 := by omega
          have hp0 : (0 : Int) ≤ (p : Int) := by omega
          have hpl2 : (p : Int) < (env.length : Int) := by omega
          have hfl := fewI_x HFE.out (show f ∈ env by rw [← hf]; exact List.getElem_mem hpl)
          have HFL := Lib.hid hfl
          clear KF hp hnf hle hfl
          go_upto_region 9 with (go_at_call 28; refine (HKF.out _ BC.out).mono ?_; rintro e wn ⟨rfl, hb⟩; have DM := Lib.hid (DM.out.under hb DM.out.lt); have DL := Lib.hid (DL.out.under hb DL.out.lt); have DO := Lib.hid (DO.out.under hb DO.out.lt); have DX := Lib.hid (DX.out.under hb DX.out.lt); have BC := Lib.hid (BC.out.trans (hb.mono BC.out.size)); clear hb; clear m0 m1 m2 k0 k1 k2 k3 k4 k5 k6 e0 e1 e2 e3 e4 e5 e6 y0 y1 y2 y3 ml kl el yl; obtain ⟨m0, m1, m2⟩ := cellsT3 DM.out; have ml := DM.out.lt; obtain ⟨k0, k1, k2, k3, k4, k5, k6⟩ := cellsT7 DL.out; have kl := DL.out.lt; obtain ⟨e0, e1, e2, e3, e4, e5, e6⟩ := cellsT7 DO.out; have el := DO.out.lt; obtain ⟨y0, y1, y2, y3⟩ := cellsT4 DX.out; have yl := DX.out.lt)
          obtain ⟨ff, b2, o2, ta, tc, va, vc, hea, hbB2, hT, -, htc, -, -, -, -, g3, -⟩ := (HE.out.under (BC.out.mono hB)).elem hpl hf
          obtain rfl := hea
          have lb2 : b2 < wn.heap.size := by have := BC.out.size; omega
          have KO := fun W (hb : Below w.heap.size w W) (hT : NmsAt W B ta f.types) => refOfN_b ta tc B f.types t.name W hT (Nat.le_trans hB hb.size) (by have := HFL.out.1; omega)
          have HT := Lib.hid hT
          have HKF2 := Lib.hid hf
          clear hT ff hf HKF
          obtain ⟨q2, hq2⟩ : ∃ q, ofN f.types t.name = q := ⟨_, rfl⟩
          simp only [hq2] at KO
          have HKO := Lib.hid KO
          have HQ2 := Lib.hid hq2
          clear KO hq2
          refine wp_region_until [(7, fun w' => w'.cell? ⟨b2, o2 + p * 5 + 3, none⟩ = some (.slice ta f.types.length tc) ∧ w'.cell? ⟨w.heap.size + 1, 4, none⟩ = some (.string t.name))] (by kernel_rfl) (Until.cons (fun _ => ⟨g3, k4⟩) Until.nil) (fun hU => ?_)
          refine AnyU.take (i := 0) (v := ?_) rfl (by kernel_rfl) (by kernel_rfl) (by kernel_rfl) (fun _ _ _ h => h) (by kernel_rfl) (by assumption) (by rfl) ?_ (fun hV => ?_)
          rotate_left 1
          · (intro wq; go_simp; try with_reducible rfl)
          clear hU; have hU := hV; clear hV
          try simp only [Act.put, aput]
          refine AnyU.take (i := 1) (v := ?_) rfl (by kernel_rfl) (by kernel_rfl) (by kernel_rfl) (fun _ _ _ h => h) (by kernel_rfl) (by assumption) (by rfl) ?_ (fun hV => ?_)
          rotate_left 1
          · (intro wq; go_simp; try with_reducible rfl)
          clear hU; have hU := hV; clear hV
          try simp only [Act.put, aput]
          refine AnyU.take (i := 2) (v := ?_) rfl (by kernel_rfl) (by kernel_rfl) (by kernel_rfl) (fun _ _ _ h => h) (by kernel_rfl) (by assumption) (by rfl) ?_ (fun hV => ?_)
          rotate_left 1
          · (intro wq; go_simp; try with_reducible rfl)
          clear hU; have hU := hV; clear hV
          try simp only [Act.put, aput]
          refine AnyU.take (i := 3) (v := ?_) rfl (by kernel_rfl) (by kernel_rfl) (by kernel_rfl) (fun _ _ _ h => h) (by kernel_rfl) (by assumption) (by rfl) ?_ (fun hV => ?_)
          rotate_left 1
          · (intro wq; go_simp; try with_reducible rfl)
          clear hU; have hU := hV; clear hV
          try simp only [Act.put, aput]
          refine AnyU.loadc (i := 4) (d := 7) [7] (Si := fun w' => w'.cell? ⟨b2, o2 + p * 5 + 3, none⟩ = some (.slice ta f.types.length tc) ∧ w'.cell? ⟨w.heap.size + 1, 4, none⟩ = some (.string t.name)) (v := ?_) rfl (by kernel_rfl) (by kernel_rfl) (by kernel_rfl) (fun _ _ _ h => h) (by kernel_rfl) (by assumption) (by kernel_rfl) rfl (by simp) (by rfl) ?_ (fun hV => ?_)
          rotate_left 1
          · (intro wq hq; obtain ⟨u0, u1⟩ := hq; go_simp; try with_reducible rfl)
          clear hU; have hU := hV; clear hV
          try simp only [Act.put, aput]
          refine AnyU.take (i := 5) (v := ?_) rfl (by kernel_rfl) (by kernel_rfl) (by kernel_rfl) (fun _ _ _ h => h) (by kernel_rfl) (by assumption) (by rfl) ?_ (fun hV => ?_)
          rotate_left 1
          · (intro wq; go_simp; try with_reducible rfl)
          clear hU; have hU := hV; clear hV
          try simp only [Act.put, aput]
          refine AnyU.loadc (i := 6) (d := 7) [7] (Si := fun w' => w'.cell? ⟨b2, o2 + p * 5 + 3, none⟩ = some (.slice ta f.types.length tc) ∧ w'.cell? ⟨w.heap.size + 1, 4, none⟩ = some (.string t.name)) (v := ?_) rfl (by kernel_rfl) (by kernel_rfl) (by kernel_rfl) (fun _ _ _ h => h) (by kernel_rfl) (by assumption) (by kernel_rfl) rfl (by simp) (by rfl) ?_ (fun hV => ?_)
          rotate_left 1
          · (intro wq hq; obtain ⟨u0, u1⟩ := hq; go_simp; try with_reducible rfl)
          clear hU; have hU := hV; clear hV
          try simp only [Act.put, aput]
          refine AnyU.ready1 (i := 7) (by kernel_rfl) (AnyU.one rfl fun K hK => ?_)
          go_simp
          go_at_call 30
          refine (HKO.out _ BC.out.drew (HT.out.under (Below.refl B wn).drew)).mono ?_
          rintro e wo ⟨rfl, hb⟩
          have g3 := (hb.cell (p := ⟨b2, o2 + p * 5 + 3, none⟩) lb2).trans g3
          have lb2 : b2 < wo.heap.size := Nat.lt_of_lt_of_le lb2 hb.size
          have DM := Lib.hid (DM.out.drew.under hb DM.out.lt)
          have DL := Lib.hid (DL.out.drew.under hb DL.out.lt)
          have DO := Lib.hid (DO.out.drew.under hb DO.out.lt)
          have DX := Lib.hid (DX.out.drew.under hb DX.out.lt)
          have HT := Lib.hid ((HT.out.under (Below.refl B wn).drew).under (hb.mono (Nat.le_trans hB BC.out.size)))
          have BC := Lib.hid (BC.out.drew.trans (hb.mono BC.out.size))
          clear hb m0 m1 m2 k0 k1 k2 k3 k4 k5 k6 e0 e1 e2 e3 e4 e5 e6 y0 y1 y2 y3 ml kl el yl
          refine hK.out _ _ (Until.offT (by kernel_rfl)) (fun hV => ?_)
          clear hK K
          clear hU; have hU := hV; clear hV
          try simp only [Act.put, aput]
          refine AnyU.take (i := 8) (v := ?_) rfl (by kernel_rfl) (by kernel_rfl) (by kernel_rfl) (fun _ _ _ h => h) (by kernel_rfl) (by assumption) (by rfl) ?_ (fun hV => ?_)
          rotate_left 1
          · (intro wq; go_simp; try with_reducible rfl)
          clear hU; have hU := hV; clear hV
          try simp only [Act.put, aput]
          refine AnyU.done (by kernel_rfl) ?_
          clear hU
          obtain ⟨m0, m1, m2⟩ := cellsT3 DM.out
          have ml := DM.out.lt
          obtain ⟨k0, k1, k2, k3, k4, k5, k6⟩ := cellsT7 DL.out
          have kl := DL.out.lt
          obtain ⟨e0, e1, e2, e3, e4, e5, e6⟩ := cellsT7 DO.out
          have el := DO.out.lt
          obtain ⟨y0, y1, y2, y3⟩ := cellsT4 DX.out
          have yl := DX.out.lt
          rcases ofN_cases f.types t.name with ⟨hp2, hnf2⟩ | ⟨p2, hpl2, hp2, hnf2⟩
          · obtain rfl : q2 = -1 := HQ2.out.symm.trans hp2
            have NF := Lib.hid hnf2
            clear hp2 hnf2
            have f0 := DO.out.free 0
            have f1 := DO.out.free 1
            have f2 := DO.out.free 2
            have f3 := DO.out.free 3
            have f4 := DO.out.free 4
            have f5 := DO.out.free 5
            have f6 := DO.out.free 6
            go_wp2_with fail
            have hres := HR.out.symm.trans (show thereF m env t = (zT, false) by rw [thereF, HFD.out]; simp only [NF0.out, NF.out])
            obtain ⟨rfl, rfl⟩ := Prod.mk.inj hres
            clear hres
            obtain ⟨Wz, hWq, hp, hbp⟩ := st7 (.int .i64 0) (.string { data := #[] }) (.int .i64 0) (.string { data := #[] }) (.string { data := #[] }) (.slice none 0 0) (.slice none 0 0) DO.out BC.out (show w.heap.size ≤ w.heap.size + 1 + 1 by omega)
            rewrite [← hWq]; clear hWq
            obtain ⟨r0, r1, r2, r3, r4, r5, r6⟩ := cellsT7 hp
            refine bodyPost_ret (by simp [results, Tryz.results133, go_sem, r0, r1, r2, r3, r4, r5, r6]; try rfl) rfl ?_
            exact ⟨_, rfl, zT_c _ _, hbp⟩
          · obtain rfl : q2 = (p2 : Int) := HQ2.out.symm.trans hp2
            have NF := Lib.hid hnf2
            have hpI2 : ¬ (p2 : Int) < 0 := by omega
            have hp20 : (0 : Int) ≤ (p2 : Int) := by omega
            have hpl3 : (p2 : Int) < (f.types.length : Int) := by omega
            clear hp2
            obtain ⟨n, hn⟩ : ∃ n, f.types[p2] = n := ⟨_, rfl⟩
            have hnm : n ∈ f.types := by rw [← hn]; exact List.getElem_mem hpl2
            have hfew : FewB n.ty = true := List.all_eq_true.1 HFL.out.2 n hnm
            obtain ⟨hns, b3, o3, na3, nc3, sa3, sc3, hta, hbB3, hty, h0, h1, h2, h3, h4, h5, h6, h7⟩ := HT.out.elem hpl2 hn
            obtain rfl := hta
            have lb3 : b3 < wo.heap.size := by have := BC.out.size; omega
            rw [hn] at hnf2
            have NF := Lib.hid hnf2
            have HTY := Lib.hid hty
            have HFW := Lib.hid hfew
            have hres := HR.out.symm.trans (show thereF m env t = (n.ty, PlainB n.ty) by rw [thereF, HFD.out]; simp only [NF0.out, NF.out])
            obtain ⟨rfl, rfl⟩ := Prod.mk.inj hres
            clear hres hns hty hnf2 hfew hnm hn
            go_upto_region 13 with fail
            clear h0 h1 h2 h3 h4 h5 h6 h7 g3
            clear m0 m1 m2 k0 k1 k2 k3 k4 k5 k6 e0 e1 e2 e3 e4 e5 e6 y0 y1 y2 y3 ml kl el yl
            obtain ⟨Wt, hWq, bN, hb, hzN⟩ := laidNX wo #[.int .i64 n.ty.kind, .string n.ty.pkg, .int .i64 n.ty.major, .string n.ty.mod, .string n.ty.name, .slice na3 n.ty.names.length nc3, .slice sa3 n.ty.subs.length sc3] 29
            rewrite [← hWq]; clear hWq
            have DM := Lib.hid (DM.out.under hb DM.out.lt)
            have DL := Lib.hid (DL.out.under hb DL.out.lt)
            have DO := Lib.hid (DO.out.under hb DO.out.lt)
            have DX := Lib.hid (DX.out.under hb DX.out.lt)
            have HTY := Lib.hid (HTY.out.under (hb.mono (Nat.le_trans hB BC.out.size)))
            have BC := Lib.hid (BC.out.trans (hb.mono BC.out.size))
            have DT := Lib.hid bN
            clear bN hb hzN
            obtain ⟨m0, m1, m2⟩ := cellsT3 DM.out
            have ml := DM.out.lt
            obtain ⟨k0, k1, k2, k3, k4, k5, k6⟩ := cellsT7 DL.out
            have kl := DL.out.lt
            obtain ⟨e0, e1, e2, e3, e4, e5, e6⟩ := cellsT7 DO.out
            have el := DO.out.lt
            obtain ⟨y0, y1, y2, y3⟩ := cellsT4 DX.out
            have yl := DX.out.lt
            obtain ⟨z0, z1, z2, z3, z4, z5, z6⟩ := cellsT7 DT.out
            have zl := DT.out.lt
            have hmy := fun W (ht : TyC W B n.ty (tyCells n.ty na3 nc3 sa3 sc3)) (hb : B ≤ W.heap.size) => rMay_c n.ty (tyCells n.ty na3 nc3 sa3 sc3) B W ht hb (by have := few_many n.ty HFW.out; omega)
            have hpl := fun W (ht : TyC W B n.ty (tyCells n.ty na3 nc3 sa3 sc3)) (hb : B ≤ W.heap.size) => rPlain_c n.ty (tyCells n.ty na3 nc3 sa3 sc3) B W ht hb
            obtain ⟨qm, hqm⟩ : ∃ q, mayT n.ty = q := ⟨_, rfl⟩
            obtain ⟨qp, hqp⟩ : ∃ q, plainT n.ty = q := ⟨_, rfl⟩
            have HPB := Lib.hid (show PlainB n.ty = (qm && qp) by rw [PlainB, hqm, hqp])
            simp only [tyCells, hqm] at hmy
            simp only [tyCells, hqp] at hpl
            simp only [tyCells] at HTY
            have HMY := Lib.hid hmy
            have HPL := Lib.hid hpl
            clear hmy hpl hqm hqp
            go_upto_region 14 with (go_at_call 20; refine (HMY.out _ HTY.out (Nat.le_trans hB BC.out.size)).mono ?_; rintro e wn ⟨rfl, hb⟩; have DM := Lib.hid (DM.out.under hb DM.out.lt); have DL := Lib.hid (DL.out.under hb DL.out.lt); have DO := Lib.hid (DO.out.under hb DO.out.lt); have DX := Lib.hid (DX.out.under hb DX.out.lt); have DT := Lib.hid (DT.out.under hb DT.out.lt); have HTY := Lib.hid (HTY.out.under (hb.mono (Nat.le_trans hB BC.out.size))); have BC := Lib.hid (BC.out.trans (hb.mono BC.out.size)); clear hb; clear m0 m1 m2 k0 k1 k2 k3 k4 k5 k6 e0 e1 e2 e3 e4 e5 e6 y0 y1 y2 y3 z0 z1 z2 z3 z4 z5 z6 ml kl el yl zl; obtain ⟨m0, m1, m2⟩ := cellsT3 DM.out; have ml := DM.out.lt; obtain ⟨k0, k1, k2, k3, k4, k5, k6⟩ := cellsT7 DL.out; have kl := DL.out.lt; obtain ⟨e0, e1, e2, e3, e4, e5, e6⟩ := cellsT7 DO.out; have el := DO.out.lt; obtain ⟨y0, y1, y2, y3⟩ := cellsT4 DX.out; have yl := DX.out.lt; obtain ⟨z0, z1, z2, z3, z4, z5, z6⟩ := cellsT7 DT.out; have zl := DT.out.lt)
            cases qm
            · have f0 := DO.out.free 0
              have f1 := DO.out.free 1
              have f2 := DO.out.free 2
              have f3 := DO.out.free 3
              have f4 := DO.out.free 4
              have f5 := DO.out.free 5
              have f6 := DO.out.free 6
              go_wp2_with fail
              have hty2 := HTY.out.keep (w' := (((((((wn.setCell ⟨w.heap.size + 1 + 1, 0, none⟩ (.int .i64 n.ty.kind)).setCell ⟨w.heap.size + 1 + 1, 1, none⟩ (.string n.ty.pkg)).setCell ⟨w.heap.size + 1 + 1, 2, none⟩ (.int .i64 n.ty.major)).setCell ⟨w.heap.size + 1 + 1, 3, none⟩ (.string n.ty.mod)).setCell ⟨w.heap.size + 1 + 1, 4, none⟩ (.string n.ty.name)).setCell ⟨w.heap.size + 1 + 1, 5, none⟩ (.slice na3 n.ty.names.length nc3)).setCell ⟨w.heap.size + 1 + 1, 6, none⟩ (.slice sa3 n.ty.subs.length sc3))) (fun p hp => pc7 (.int .i64 n.ty.kind) (.string n.ty.pkg) (.int .i64 n.ty.major) (.string n.ty.mod) (.string n.ty.name) (.slice na3 n.ty.names.length nc3) (.slice sa3 n.ty.subs.length sc3) (by show p.block ≠ w.heap.size + 1 + 1; omega))
              have hp := pf7 (.int .i64 n.ty.kind) (.string n.ty.pkg) (.int .i64 n.ty.major) (.string n.ty.mod) (.string n.ty.name) (.slice na3 n.ty.names.length nc3) (.slice sa3 n.ty.subs.length sc3) DO.out
              have hbp := pb7 (.int .i64 n.ty.kind) (.string n.ty.pkg) (.int .i64 n.ty.major) (.string n.ty.mod) (.string n.ty.name) (.slice na3 n.ty.names.length nc3) (.slice sa3 n.ty.subs.length sc3) BC.out (show w.heap.size ≤ w.heap.size + 1 + 1 by omega)
              generalize (((((((wn.setCell ⟨w.heap.size + 1 + 1, 0, none⟩ (.int .i64 n.ty.kind)).setCell ⟨w.heap.size + 1 + 1, 1, none⟩ (.string n.ty.pkg)).setCell ⟨w.heap.size + 1 + 1, 2, none⟩ (.int .i64 n.ty.major)).setCell ⟨w.heap.size + 1 + 1, 3, none⟩ (.string n.ty.mod)).setCell ⟨w.heap.size + 1 + 1, 4, none⟩ (.string n.ty.name)).setCell ⟨w.heap.size + 1 + 1, 5, none⟩ (.slice na3 n.ty.names.length nc3)).setCell ⟨w.heap.size + 1 + 1, 6, none⟩ (.slice sa3 n.ty.subs.length sc3)) = Wz at hp hbp hty2 ⊢
              obtain ⟨r0, r1, r2, r3, r4, r5, r6⟩ := cellsT7 hp
              rw [HPB.out]
              refine bodyPost_ret (by simp [results, Tryz.results133, go_sem, r0, r1, r2, r3, r4, r5, r6]; try rfl) rfl ?_
              exact ⟨_, rfl, hty2, hbp⟩
            · go_wp2_with (go_at_call 192; refine (HPL.out _ HTY.out (Nat.le_trans hB BC.out.size)).mono ?_; rintro e wn ⟨rfl, hb⟩; have DM := Lib.hid (DM.out.under hb DM.out.lt); have DL := Lib.hid (DL.out.under hb DL.out.lt); have DO := Lib.hid (DO.out.under hb DO.out.lt); have DX := Lib.hid (DX.out.under hb DX.out.lt); have DT := Lib.hid (DT.out.under hb DT.out.lt); have HTY := Lib.hid (HTY.out.under (hb.mono (Nat.le_trans hB BC.out.size))); have BC := Lib.hid (BC.out.trans (hb.mono BC.out.size)); have f0 := DO.out.free 0; have f1 := DO.out.free 1; have f2 := DO.out.free 2; have f3 := DO.out.free 3; have f4 := DO.out.free 4; have f5 := DO.out.free 5; have f6 := DO.out.free 6; clear hb; clear m0 m1 m2 k0 k1 k2 k3 k4 k5 k6 e0 e1 e2 e3 e4 e5 e6 y0 y1 y2 y3 z0 z1 z2 z3 z4 z5 z6 ml kl el yl zl; obtain ⟨m0, m1, m2⟩ := cellsT3 DM.out; have ml := DM.out.lt; obtain ⟨k0, k1, k2, k3, k4, k5, k6⟩ := cellsT7 DL.out; have kl := DL.out.lt; obtain ⟨e0, e1, e2, e3, e4, e5, e6⟩ := cellsT7 DO.out; have el := DO.out.lt; obtain ⟨y0, y1, y2, y3⟩ := cellsT4 DX.out; have yl := DX.out.lt; obtain ⟨z0, z1, z2, z3, z4, z5, z6⟩ := cellsT7 DT.out; have zl := DT.out.lt)
              have hty2 := HTY.out.keep (w' := (((((((wn.setCell ⟨w.heap.size + 1 + 1, 0, none⟩ (.int .i64 n.ty.kind)).setCell ⟨w.heap.size + 1 + 1, 1, none⟩ (.string n.ty.pkg)).setCell ⟨w.heap.size + 1 + 1, 2, none⟩ (.int .i64 n.ty.major)).setCell ⟨w.heap.size + 1 + 1, 3, none⟩ (.string n.ty.mod)).setCell ⟨w.heap.size + 1 + 1, 4, none⟩ (.string n.ty.name)).setCell ⟨w.heap.size + 1 + 1, 5, none⟩ (.slice na3 n.ty.names.length nc3)).setCell ⟨w.heap.size + 1 + 1, 6, none⟩ (.slice sa3 n.ty.subs.length sc3))) (fun p hp => pc7 (.int .i64 n.ty.kind) (.string n.ty.pkg) (.int .i64 n.ty.major) (.string n.ty.mod) (.string n.ty.name) (.slice na3 n.ty.names.length nc3) (.slice sa3 n.ty.subs.length sc3) (by show p.block ≠ w.heap.size + 1 + 1; omega))
              have hp := pf7 (.int .i64 n.ty.kind) (.string n.ty.pkg) (.int .i64 n.ty.major) (.string n.ty.mod) (.string n.ty.name) (.slice na3 n.ty.names.length nc3) (.slice sa3 n.ty.subs.length sc3) DO.out
              have hbp := pb7 (.int .i64 n.ty.kind) (.string n.ty.pkg) (.int .i64 n.ty.major) (.string n.ty.mod) (.string n.ty.name) (.slice na3 n.ty.names.length nc3) (.slice sa3 n.ty.subs.length sc3) BC.out (show w.heap.size ≤ w.heap.size + 1 + 1 by omega)
              generalize (((((((wn.setCell ⟨w.heap.size + 1 + 1, 0, none⟩ (.int .i64 n.ty.kind)).setCell ⟨w.heap.size + 1 + 1, 1, none⟩ (.string n.ty.pkg)).setCell ⟨w.heap.size + 1 + 1, 2, none⟩ (.int .i64 n.ty.major)).setCell ⟨w.heap.size + 1 + 1, 3, none⟩ (.string n.ty.mod)).setCell ⟨w.heap.size + 1 + 1, 4, none⟩ (.string n.ty.name)).setCell ⟨w.heap.size + 1 + 1, 5, none⟩ (.slice na3 n.ty.names.length nc3)).setCell ⟨w.heap.size + 1 + 1, 6, none⟩ (.slice sa3 n.ty.subs.length sc3)) = Wz at hp hbp hty2 ⊢
              obtain ⟨r0, r1, r2, r3, r4, r5, r6⟩ := cellsT7 hp
              rw [HPB.out]
              refine bodyPost_ret (by simp [results, Tryz.results133, go_sem, r0, r1, r2, r3, r4, r5, r6]; try rfl) rfl ?_
              exact ⟨_, rfl, hty2, hbp⟩
    · obtain rfl : k = m.imps.length := by omega
      have hkI : ¬ (m.imps.length : Int) < (m.imps.length : Int) := by omega
      have hres := HR.out.symm.trans (thereF_none (List.find?_eq_none.2 fun x hx => by
        obtain ⟨i, hi, rfl⟩ := List.getElem_of_mem hx
        rw [HA.out i hi hi]; decide))
      obtain ⟨rfl, rfl⟩ := Prod.mk.inj hres
      clear hres
      obtain ⟨e0, e1, e2, e3, e4, e5, e6⟩ := cellsT7 DO.out
      have el := DO.out.lt
      have f0 := DO.out.free 0
      have f1 := DO.out.free 1
      have f2 := DO.out.free 2
      have f3 := DO.out.free 3
      have f4 := DO.out.free 4
      have f5 := DO.out.free 5
      have f6 := DO.out.free 6
      go_wp2_with fail
      obtain ⟨Wz, hWq, hp, hbp⟩ := st7 (.int .i64 0) (.string { data := #[] }) (.int .i64 0) (.string { data := #[] }) (.string { data := #[] }) (.slice none 0 0) (.slice none 0 0) DO.out BC.out (show w.heap.size ≤ w.heap.size + 1 + 1 by omega)
      rewrite [← hWq]; clear hWq
      obtain ⟨r0, r1, r2, r3, r4, r5, r6⟩ := cellsT7 hp
      refine bodyPost_ret (by simp [results, Tryz.results133, go_sem, r0, r1, r2, r3, r4, r5, r6]; try rfl) rfl ?_
      exact ⟨_, rfl, zT_c _ _, hbp⟩
end Go.Proofs.YtjeldfipipkfiaaGreatDoor
