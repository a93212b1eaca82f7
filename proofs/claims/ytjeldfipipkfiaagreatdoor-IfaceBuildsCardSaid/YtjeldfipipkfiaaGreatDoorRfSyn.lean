/- The contracts of merlonref06.import0, decl and May, at types that are few enough to be gone through. -/
import Derived.Test.YtjeldfipipkfiaaGreatDoorGModS
import Derived.Test.YtjeldfipipkfiaaGreatDoorGRefK
import Derived.Deep.CutBlock
namespace Go.Proofs.YtjeldfipipkfiaaGreatDoor
open Go.RowKit
set_option linter.unusedSimpArgs false
set_option linter.unusedVariables false
theorem nothing_is (t : Ty) : nothingB t = alikeT t (.mk 0 { data := #[] } 0 { data := #[] } { data := #[] } [] []) := by
  have e : ∀ s : ByteArray, s.toList.isEmpty = true ↔ s = { data := #[] } := fun s => by
    rw [List.isEmpty_iff]
    constructor
    · intro h
      have h2 := ba_eq s { data := #[] }
      rw [h, show (({ data := #[] } : ByteArray).toList) = [] from by decide +kernel] at h2
      simpa using h2
    · rintro rfl; decide +kernel
  rw [Bool.eq_iff_iff, alike_iff]
  cases t with
  | mk k p m mo n ns ss =>
    simp only [nothingB, Ty.kind, Ty.pkg, Ty.major, Ty.mod, Ty.name, Ty.names, Ty.subs, Bool.and_eq_true, beq_iff_eq, decide_eq_true_eq, e, List.length_eq_zero_iff, Ty.mk.injEq]
set_option maxRecDepth 100000 in
set_option maxHeartbeats 40000000 in
theorem rImp_c (i : Imp) (w : World) (hf : ImpFits i) : Calls Tryz.prog 57 #[.agg (impCells i)] w fun e w' => e = .returned (.bool (impOk i)) ∧ Below w.heap.size w w' := by
  have C1 := fun w => rSmall_c i.pkg w hf.pkg
  have C2 := fun w => rSmall_c i.mod w hf.mod
  have C3 := fun w => rSmall_c i.asN w hf.asN
  obtain ⟨s1, h1⟩ : ∃ s, smallB i.pkg = s := ⟨_, rfl⟩
  obtain ⟨s2, h2⟩ : ∃ s, smallB i.mod = s := ⟨_, rfl⟩
  obtain ⟨s3, h3⟩ : ∃ s, smallB i.asN = s := ⟨_, rfl⟩
  have hr : impOk i = (s1 && (s2 && (s3 && (decide (1 ≤ i.major) && decide (i.major ≤ 999999999))))) := by rw [impOk, h1, h2, h3]
  rw [hr]
  simp only [h1] at C1
  simp only [h2] at C2
  simp only [h3] at C3
  have H1 := Lib.hid C1
  have H2 := Lib.hid C2
  have H3 := Lib.hid C3
  clear C1 C2 C3 h1 h2 h3 hr hf
  go_enter Tryz.func57, Tryz.ntmps57
  simp only [impCells]
  go_upto_region 1 with fail
  obtain ⟨W, hWq, x0, A0, -⟩ := laidNX w #[.string i.pkg, .int .i64 i.major, .string i.mod, .string i.asN] 55
  rewrite [← hWq]; clear hWq
  have X0 := Lib.hid x0
  have A0 := Lib.hid A0
  obtain ⟨k0, k1, k2, k3⟩ := cellsT4 x0
  have lk := x0.lt
  clear x0
  go_upto_region 4 with (go_at_call 56; first
          | (have hno := A2; refine (H3.out _).mono ?_; rintro e w3 ⟨rfl, hb⟩; have A3 := Lib.hid (A2.out.trans (hb.mono A2.out.size)); clear hb k0 k1 k2 k3 lk hno; obtain ⟨k0, k1, k2, k3⟩ := cellsT4 (X0.out.under A3.out X0.out.lt); have lk := (X0.out.under A3.out X0.out.lt).lt)
          | (have hno := A1; refine (H2.out _).mono ?_; rintro e w2 ⟨rfl, hb⟩; have A2 := Lib.hid (A1.out.trans (hb.mono A1.out.size)); clear hb k0 k1 k2 k3 lk hno; obtain ⟨k0, k1, k2, k3⟩ := cellsT4 (X0.out.under A2.out X0.out.lt); have lk := (X0.out.under A2.out X0.out.lt).lt)
          | (refine (H1.out _).mono ?_; rintro e w1 ⟨rfl, hb⟩; have A1 := Lib.hid hb; clear hb k0 k1 k2 k3 lk; obtain ⟨k0, k1, k2, k3⟩ := cellsT4 (X0.out.under A1.out X0.out.lt); have lk := (X0.out.under A1.out X0.out.lt).lt))
  by_cases m1 : 1 ≤ i.major
  all_goals by_cases m2 : i.major ≤ 999999999
  all_goals try (exfalso; omega)
  all_goals cases s1 <;> cases s2 <;> cases s3
  all_goals
    go_wp2_with fail
    go_ret
    exact ⟨ret_b (by simp [m1, m2]), A0.out.trans (A3.out.mono A0.out.size)⟩
set_option maxRecDepth 100000 in
set_option maxHeartbeats 40000000 in
theorem rDcl_c (d : Dcl) (na : Option Addr) (nc : Nat) (sa : Option Addr) (sc B : Nat) (w : World) (hB : B ≤ w.heap.size) (hf : DclFits d) (ht : TyC w B d.ty (tyCells d.ty na nc sa sc)) (hm : manyT d.ty ≤ 1000000000) :
    Calls Tryz.prog 58 #[.agg (dclCells d na nc sa sc)] w fun e w' => e = .returned (.bool (dclOk d)) ∧ Below w.heap.size w w' := by
  have C1 := fun w => rSmall_c d.name w hf.name
  have C2 := fun w => rGreat_b d.name w hf.name
  have C3 := fun w h hB => rMay_c d.ty (tyCells d.ty na nc sa sc) B w h hB hm
  have C4 := fun w h hB => rSame_c d.ty (.mk 0 { data := #[] } 0 { data := #[] } { data := #[] } [] []) (tyCells d.ty na nc sa sc) #[.int .i64 0, .string { data := #[] }, .int .i64 0, .string { data := #[] }, .string { data := #[] }, .slice none 0 0, .slice none 0 0] B w h
    (.mk _ none 0 none 0 (fun _ => #[]) { kind := by decide, major := by decide, pkg := by decide +kernel, mod := by decide +kernel, name := by decide +kernel, names := by decide, each := (fun s hs => by cases hs), subs := by decide } (.inl rfl) (.inl rfl) (Nat.le_refl _) (Nat.le_refl _) (fun i hi => by simp [Ty.subs] at hi)) hB
  rw [← nothing_is] at C4
  obtain ⟨s1, h1⟩ : ∃ s, smallB d.name = s := ⟨_, rfl⟩
  obtain ⟨s2, h2⟩ : ∃ s, greatB d.name = s := ⟨_, rfl⟩
  obtain ⟨s3, h3⟩ : ∃ s, mayT d.ty = s := ⟨_, rfl⟩
  obtain ⟨s4, h4⟩ : ∃ s, nothingB d.ty = s := ⟨_, rfl⟩
  have hr : dclOk d = if d.kind = 1 ∨ d.kind = 2 then s2 && s4 else if d.kind = 3 then s2 && s3 else if d.kind = 4 then s1 && s3 else false := by rw [dclOk, h1, h2, h3, h4]
  obtain ⟨q, hq⟩ : ∃ q, d.kind = q := ⟨_, rfl⟩
  rw [hq] at hr
  rw [hr]
  simp only [dclCells, hq]
  simp only [h1] at C1
  simp only [h2] at C2
  simp only [h3] at C3
  simp only [h4] at C4
  have H1 := Lib.hid C1
  have H2 := Lib.hid C2
  have H3 := Lib.hid C3
  have H4 := Lib.hid C4
  have HT := Lib.hid ht
  clear C1 C2 C3 C4 h1 h2 h3 h4 hr hf ht hq hm
  simp only [tyCells] at H3 H4 HT
  go_enter Tryz.func58, Tryz.ntmps58
  go_upto_region 1 with fail
  obtain ⟨W, hWq, x0, A0, -⟩ := laidNX w #[.int .i64 q, .string d.name, .int .i64 d.ty.kind, .string d.ty.pkg, .int .i64 d.ty.major, .string d.ty.mod, .string d.ty.name, .slice na d.ty.names.length nc, .slice sa d.ty.subs.length sc] 45
  rewrite [← hWq]; clear hWq
  have X0 := Lib.hid x0
  have A0 := Lib.hid A0
  obtain ⟨k0, k1, k2, k3, k4, k5, k6, k7, k8⟩ := cellsT9 x0
  have lk := x0.lt
  clear x0
  go_upto_region 4 with (first
    | (go_at_call 56; refine (H1.out _).mono ?_; rintro e w1 ⟨rfl, hb⟩; have A1 := Lib.hid hb; clear hb k0 k1 k2 k3 k4 k5 k6 k7 k8 lk; obtain ⟨k0, k1, k2, k3, k4, k5, k6, k7, k8⟩ := cellsT9 (X0.out.under A1.out X0.out.lt); have lk := (X0.out.under A1.out X0.out.lt).lt)
    | (go_at_call 114; refine (H2.out _).mono ?_; rintro e w2 ⟨rfl, hb⟩; have A2 := Lib.hid (A1.out.trans (hb.mono A1.out.size)); clear hb k0 k1 k2 k3 k4 k5 k6 k7 k8 lk; obtain ⟨k0, k1, k2, k3, k4, k5, k6, k7, k8⟩ := cellsT9 (X0.out.under A2.out X0.out.lt); have lk := (X0.out.under A2.out X0.out.lt).lt)
    | (go_at_call 31; refine (H4.out _ (HT.out.under ((A0.out.trans (A2.out.mono A0.out.size)).mono hB)) (Nat.le_trans hB (A0.out.trans (A2.out.mono A0.out.size)).size)).mono ?_; rintro e w3 ⟨rfl, hb⟩; have A3 := Lib.hid (A2.out.trans (hb.mono A2.out.size)); clear hb k0 k1 k2 k3 k4 k5 k6 k7 k8 lk; obtain ⟨k0, k1, k2, k3, k4, k5, k6, k7, k8⟩ := cellsT9 (X0.out.under A3.out X0.out.lt); have lk := (X0.out.under A3.out X0.out.lt).lt))
  have hcase : q = 1 ∨ q = 2 ∨ q = 3 ∨ q = 4 ∨ (¬ q = 1 ∧ ¬ q = 2 ∧ ¬ q = 3 ∧ ¬ q = 4) := by omega
  rcases hcase with rfl | rfl | rfl | rfl | ⟨n1, n2, n3, n4⟩
  all_goals cases s1 <;> cases s2
  all_goals
    go_wp2_with (go_at_call 20; refine (H3.out _ (HT.out.under ((A0.out.trans (A3.out.mono A0.out.size)).mono hB)) (Nat.le_trans hB (A0.out.trans (A3.out.mono A0.out.size)).size)).mono ?_; rintro e w4 ⟨rfl, hb⟩; have A4 := Lib.hid (A3.out.trans (hb.mono A3.out.size)); clear hb k0 k1 k2 k3 k4 k5 k6 k7 k8 lk)
    all_goals
      go_ret
      refine ⟨ret_b (by simp_all), ?_⟩
      first
        | exact A0.out.trans (A4.out.mono A0.out.size)
        | exact A0.out.trans (A3.out.mono A0.out.size)
theorem all_step {α : Type} {p : α → Bool} {l : List α} {k : Nat} (hk : k < l.length) : (l.take (k + 1)).all p = ((l.take k).all p && p l[k]) := by
  rw [List.take_succ_eq_append_getElem hk, List.all_append]; simp
theorem all_stop {α : Type} {p : α → Bool} {l : List α} {k : Nat} (h : (l.take k).all p = false) : l.all p = false := by
  rw [← List.take_append_drop k l, List.all_append, h]; rfl
set_option maxRecDepth 100000 in
set_option maxHeartbeats 40000000 in
theorem rMayM_c (m : Mdl) (ia : Option Addr) (ic : Nat) (da : Option Addr) (dc B : Nat) (w : World) (hm : MdlC w B m ia ic da dc) (hB : B ≤ w.heap.size) (hmany : ∀ d ∈ m.decls, manyT d.ty ≤ 1000000000) :
    Calls Tryz.prog 19 #[.agg (mdlCells m ia ic da dc)] w fun e w' => e = .returned (.bool (mayM m)) ∧ Below w.heap.size w w' := by
  have C1 := fun w => rSmall_c m.name w hm.name
  obtain ⟨s1, h1⟩ : ∃ s, smallB m.name = s := ⟨_, rfl⟩
  have hr : mayM m = (s1 && (decide (m.imps.length ≤ 20) && (decide (m.decls.length ≤ 60) && (m.imps.all impOk && m.decls.all dclOk)))) := by rw [mayM, h1]
  simp only [h1] at C1
  obtain ⟨v, hv⟩ : ∃ v, mayM m = v := ⟨_, rfl⟩
  rw [hv]
  have HR := Lib.hid (hr.symm.trans hv)
  have H1 := Lib.hid C1
  have HM := Lib.hid hm
  have HMY := Lib.hid hmany
  clear C1 h1 hr hv hm hmany
  simp only [mdlCells]
  go_enter Tryz.func19, Tryz.ntmps19
  go_upto_region 1 with fail
  obtain ⟨W1, hWq, b1, hb1, hz1⟩ := laidNX w #[.string m.name, .slice ia m.imps.length ic, .slice da m.decls.length dc] 25
  rewrite [← hWq]; clear hWq
  have B1 := Lib.hid hb1
  have D1 := Lib.hid b1
  obtain ⟨x0, x1, x2⟩ := cellsT3 b1
  have lg0 := b1.lt
  clear b1 hb1 hz1
  go_upto_region 2 with (go_at_call 56; refine (H1.out _).mono ?_; rintro e W2 ⟨rfl, hb⟩; have B2 := Lib.hid (B1.out.trans (hb.mono B1.out.size)); have D2 := Lib.hid (D1.out.under hb D1.out.lt); clear hb x0 x1 x2 lg0; obtain ⟨x0, x1, x2⟩ := cellsT3 D2.out; have lg0 := D2.out.lt)
  by_cases l1 : m.imps.length ≤ 20
  rotate_left
  · have i1 : (m.imps.length : Int) > 20 := by omega
    have hvf : v = false := by rw [← HR.out]; simp [l1]
    subst hvf
    cases s1
    all_goals
      go_wp2_with fail
      go_ret
      exact ⟨rfl, B2.out⟩
  have i1 : ¬ (m.imps.length : Int) > 20 := by omega
  by_cases l2 : m.decls.length ≤ 60
  rotate_left
  · have i2 : (m.decls.length : Int) > 60 := by omega
    have hvf : v = false := by rw [← HR.out]; simp [l2]
    subst hvf
    cases s1
    all_goals
      go_wp2_with fail
      go_ret
      exact ⟨rfl, B2.out⟩
  have i2 : ¬ (m.decls.length : Int) > 60 := by omega
  cases s1
  · have hvf : v = false := by rw [← HR.out]; rfl
    subst hvf
    go_wp2_with fail
    go_ret
    exact ⟨rfl, B2.out⟩
  have HV := Lib.hid (show (m.imps.all impOk && m.decls.all dclOk) = v by rw [← HR.out]; simp [l1, l2])
  clear HR
  go_upto_block 0 with fail
  go_cut [3, 4] (fun ov _ wx => ov = .bool (m.imps.all impOk) ∧ Below W2.heap.size W2 wx)
  case first =>
    go_wp2
    go_loopw [3, 4] (fun ov iv wr => ∃ (k : Nat), k ≤ m.imps.length ∧ iv = .int .i64 k ∧ ov = .bool ((m.imps.take k).all impOk) ∧ Below W2.heap.size W2 wr) (fun _ iv _ => m.imps.length - (intOf iv).toNat)
    case atStart => exact ⟨0, Nat.zero_le _, rfl, rfl, Below.refl _ _⟩
    case round =>
      rename World => wr
      obtain ⟨k, hk, rfl, rfl, hbr⟩ := hrel
      have BR := Lib.hid hbr
      have BT := Lib.hid (B2.out.trans (hbr.mono B2.out.size))
      have DR := Lib.hid (D2.out.under hbr D2.out.lt)
      clear hbr x0 x1 x2 lg0
      obtain ⟨x0, x1, x2⟩ := cellsT3 DR.out
      have lg0 := DR.out.lt
      obtain ⟨q, hq⟩ : ∃ q, (m.imps.take k).all impOk = q := ⟨_, rfl⟩
      rw [hq]
      have HQ := Lib.hid hq
      clear hq
      by_cases hlt : k < m.imps.length
      · have hltI : (k : Int) < (m.imps.length : Int) := by omega
        have hk0 : (0 : Int) ≤ (k : Int) := by omega
        obtain ⟨x, hx⟩ : ∃ x, m.imps[k] = x := ⟨_, rfl⟩
        obtain ⟨hfx, bi, oi, hia, hbi, c0, c1, c2, c3⟩ := (HM.out.imps.under (BT.out.mono hB)).elem hlt hx
        obtain rfl := hia
        have lbi : bi < wr.heap.size := by have := BT.out.size; omega
        have hc := rImp_c x wr hfx
        simp only [impCells] at hc
        have HC := Lib.hid hc
        have HS := Lib.hid (show (m.imps.take (k + 1)).all impOk = (q && impOk x) by rw [all_step hlt, HQ.out, hx])
        clear hc hx hfx
        cases q
        · go_wp2_with fail
          go_meet
          exact ⟨by rw [all_stop HQ.out], BR.out⟩
        · go_wp2_with (go_at_call 57; refine HC.out.mono ?_; rintro e w3 ⟨rfl, hb⟩; have B3 := Lib.hid (BR.out.trans (hb.mono BR.out.size)); clear hb)
          first
            | exact ⟨⟨k + 1, by omega, by go_num, by rw [HS.out]; rfl, B3.out⟩, by simp [intOf]; omega⟩
            | (go_roundw
               case rel => exact ⟨k + 1, by omega, by go_num, by rw [HS.out]; rfl, B3.out⟩
               case measure => simp [intOf]; omega)
      · obtain rfl : k = m.imps.length := by omega
        have hltI : ¬ (m.imps.length : Int) < (m.imps.length : Int) := by omega
        have hq2 := HQ.out
        rw [List.take_length] at hq2
        have HQ2 := Lib.hid hq2
        clear hq2
        cases q
        all_goals
          go_wp2_with fail
          go_meet
          exact ⟨by rw [HQ2.out], BR.out⟩
  case rest =>
    rename World => W3
    obtain ⟨rfl, hb3⟩ := hcut
    have B3 := Lib.hid (B2.out.trans (hb3.mono B2.out.size))
    have D3 := Lib.hid (D2.out.under hb3 D2.out.lt)
    clear hb3 x0 x1 x2 lg0
    obtain ⟨s2, hs2⟩ : ∃ s2, m.imps.all impOk = s2 := ⟨_, rfl⟩
    rw [hs2] at HV ⊢
    clear hs2
    go_wp2
    go_loopw [3, 5] (fun ov iv wr => ∃ (k : Nat), k ≤ m.decls.length ∧ iv = .int .i64 k ∧ ov = .bool (s2 && (m.decls.take k).all dclOk) ∧ Below W3.heap.size W3 wr) (fun _ iv _ => m.decls.length - (intOf iv).toNat)
    case atStart => exact ⟨0, Nat.zero_le _, rfl, by simp, Below.refl _ _⟩
    case round =>
      rename World => wr
      obtain ⟨k, hk, rfl, rfl, hbr⟩ := hrel
      have BR := Lib.hid hbr
      have BT := Lib.hid (B3.out.trans (hbr.mono B3.out.size))
      have DR := Lib.hid (D3.out.under hbr D3.out.lt)
      clear hbr
      obtain ⟨x0, x1, x2⟩ := cellsT3 DR.out
      have lg0 := DR.out.lt
      obtain ⟨q, hq⟩ : ∃ q, (s2 && (m.decls.take k).all dclOk) = q := ⟨_, rfl⟩
      rw [hq]
      have HQ := Lib.hid hq
      clear hq
      by_cases hlt : k < m.decls.length
      · have hltI : (k : Int) < (m.decls.length : Int) := by omega
        have hk0 : (0 : Int) ≤ (k : Int) := by omega
        obtain ⟨d, hd⟩ : ∃ d, m.decls[k] = d := ⟨_, rfl⟩
        obtain ⟨hfd, bd, od, na, nc, sa, sc, hda, hbd, htd, e0, e1, e2, e3, e4, e5, e6, e7, e8⟩ := (HM.out.decls.under (BT.out.mono hB)).elem hlt hd
        obtain rfl := hda
        have lbd : bd < wr.heap.size := by have := BT.out.size; omega
        have hc := rDcl_c d na nc sa sc B wr (Nat.le_trans hB BT.out.size) hfd htd (HMY.out d (by rw [← hd]; exact List.getElem_mem hlt))
        simp only [dclCells] at hc
        have HC := Lib.hid hc
        have HS := Lib.hid (show (s2 && (m.decls.take (k + 1)).all dclOk) = (q && dclOk d) by rw [all_step hlt, ← Bool.and_assoc, HQ.out, hd])
        clear hc hd hfd htd
        cases q
        · have hvf : v = false := by
            rw [← HV.out]
            have := HQ.out
            cases s2
            · rfl
            · rw [Bool.true_and] at this ⊢; exact all_stop this
          subst hvf
          go_wp2_with fail
          go_ret
          exact ⟨rfl, BT.out⟩
        · go_wp2_with (go_at_call 58; refine HC.out.mono ?_; rintro e w4 ⟨rfl, hb⟩; have B4 := Lib.hid (BR.out.trans (hb.mono BR.out.size)); clear hb)
          first
            | exact ⟨⟨k + 1, by omega, by go_num, by rw [HS.out]; rfl, B4.out⟩, by simp [intOf]; omega⟩
            | (go_roundw
               case rel => exact ⟨k + 1, by omega, by go_num, by rw [HS.out]; rfl, B4.out⟩
               case measure => simp [intOf]; omega)
      · obtain rfl : k = m.decls.length := by omega
        have hltI : ¬ (m.decls.length : Int) < (m.decls.length : Int) := by omega
        have hq2 := HQ.out
        rw [List.take_length, HV.out] at hq2
        subst hq2
        cases v
        all_goals
          go_wp2_with fail
          go_ret
          exact ⟨rfl, BT.out⟩
end Go.Proofs.YtjeldfipipkfiaaGreatDoor
