/- The statement IfaceTurns: the law's walk. -/
import Derived.Test.YtjeldfipipkfiaaGreatGUpI
import Derived.Test.YtjeldfipipkfiaaGreatCpM
import Derived.Test.YtjeldfipipkfiaaGreatGModS
namespace Go.Proofs.YtjeldfipipkfiaaGreat
open Go.RowKit
set_option linter.unusedSimpArgs false
set_option linter.unusedVariables false
set_option linter.unnecessarySimpa false
theorem err_form {w : World} {v : Value} {r : Option (Int × Option Nat)} (h : ErrAt w v r) : (r.isNone = true ∧ v = .nilIface) ∨ (∃ c : Int, r.isNone = false ∧ v = .iface 62 (.int .i64 c)) ∨ (∃ b : Nat, r.isNone = false ∧ v = .iface 65 (.pointer (some ⟨b, 0, none⟩))) := by
  match r, h with
  | none, h => exact .inl ⟨rfl, h⟩
  | some (c, none), h => exact .inr (.inl ⟨c, rfl, h⟩)
  | some (c, some i), h => obtain ⟨b, h, -⟩ := h; exact .inr (.inr ⟨b, rfl, h⟩)
theorem DclsAt.drop {w : World} {B b o : Nat} {l : List Dcl} (h : DclsAt w B (some ⟨b, o, none⟩) l) (k : Nat) : DclsAt w B (some ⟨b, o + k * 9, none⟩) (l.drop k) := by
  obtain ⟨f, h1, h2⟩ := h
  refine ⟨fun i => f (k + i), ?_, fun i hi => ?_⟩
  · rcases h1 with h1 | ⟨b', o', hA, hb, hc⟩
    · exact .inl (by rw [List.length_drop]; omega)
    · cases hA
      refine .inr ⟨b, o + k * 9, rfl, hb, fun i hi j hj => ?_⟩
      rw [List.length_drop] at hi
      have := hc (k + i) (by omega) j hj
      rw [← this]
      congr 2
      rw [Nat.add_mul]; omega
  · rw [List.getElem_drop]
    exact h2 (k + i) (by rw [List.length_drop] at hi; omega)
theorem DclC.size {w : World} {B : Nat} {n : Dcl} {cs : Array Value} (h : DclC w B n cs) : cs.size = 9 := by
  obtain ⟨-, na, nc, sa, sc, rfl, -⟩ := h; rfl
theorem DclC.one {w : World} {B : Nat} {n : Dcl} {cs : Array Value} (h : DclC w B n cs) : ∀ u ∈ cs.toList, u.oneCell' = true := by
  obtain ⟨-, na, nc, sa, sc, rfl, -⟩ := h
  simp [dclCells, Value.oneCell']
theorem dcls_cat {w : World} {base B n1 n2 : Nat} {v : Value} {l1 l2 : List Dcl} {f1 f2 : Nat → Array Value} (e1 : l1.length = n1) (e2 : l2.length = n2) (h : w.ownsRow base 55 9 v (n1 + n2) (flatK f1 n1 ++ flatK f2 n2))
    (h1 : ∀ i (h : i < l1.length), DclC w B l1[i] (f1 i)) (h2 : ∀ i (h : i < l2.length), DclC w B l2[i] (f2 i)) (hB : B ≤ w.heap.size) : ∃ A c, v = .slice A (l1 ++ l2).length c ∧ (l1 ++ l2).length ≤ c ∧ DclsAt w w.heap.size A (l1 ++ l2) := by
  subst e1 e2
  rw [flatK_app] at h
  have hz : ∀ i, i < l1.length + l2.length → ((fun i => if i < l1.length then f1 i else f2 (i - l1.length)) i).size = 9 := fun i hi => by
    by_cases e : i < l1.length
    · simp only [if_pos e]; exact (h1 i e).size
    · simp only [if_neg e]; exact (h2 (i - l1.length) (by omega)).size
  obtain ⟨A, c, e1, e2, e3⟩ := own_rows h hz
  rw [← List.length_append] at e1 e2 e3
  refine ⟨A, c, e1, e2, _, e3, fun i hi => ?_⟩
  rw [List.length_append] at hi
  by_cases e : i < l1.length
  · rw [List.getElem_append_left e]
    simp only [if_pos e]
    exact (h1 i e).mono hB
  · rw [List.getElem_append_right (by omega)]
    simp only [if_neg e]
    exact (h2 (i - l1.length) (by omega)).mono hB
theorem errB_none {q : Int × Option Nat × If} : (errB q).isNone = true ↔ q.1 = 0 := by
  rw [errB]
  split
  · rename_i h; simp [h]
  · rename_i h; simp [h]
set_option maxRecDepth 100000 in
set_option maxHeartbeats 40000000 in
theorem ifaceTurns_c (m : Mdl) (ia : Option Addr) (ic : Nat) (da : Option Addr) (dc : Nat) (pkg : ByteArray) (j : Int) (env : List If) (ea : Option Addr) (ec : Nat) (at_ : Int) (w : World) (hm : MdlC w w.heap.size m ia ic da dc) (hp : pkg.size ≤ maxLen) (hj1 : -9223372036854775808 ≤ j) (hj2 : j ≤ 9223372036854775807)
    (he : IfsAt w w.heap.size ea env) (hec : env.length ≤ ec) (hel : env.length ≤ maxLen) (ha1 : -9223372036854775808 ≤ at_) (ha2 : at_ ≤ 9223372036854775807) :
    Calls Tryz.prog 3 #[.agg (mdlCells m ia ic da dc), .string pkg, .int .i64 j, .slice ea env.length ec, .int .i64 at_] w fun e w' => e = .returned (.bool true) ∧ Below w.heap.size w w' := by
  have HM := Lib.hid hm
  have HE := Lib.hid he
  have HP := Lib.hid hp
  have HEC := Lib.hid hec
  have HJ := Lib.hid (And.intro hj1 hj2)
  have hfe := fun W (hb : Below w.heap.size w W) => fewM_c m ia ic da dc w.heap.size W (hm.under hb) hb.size
  have hfi := fun W (hb : Below w.heap.size w W) => FewI_c env ea ec w.heap.size W (he.under hb) hb.size hel
  have hcp := fun W (hb : Below w.heap.size w W) hf => copyM_c m ia ic da dc w.heap.size W (hm.under hb) hb.size hf
  obtain ⟨C, X, hT⟩ := tells_all ⟨m, pkg, j, env⟩
  have HT0 := Lib.hid hT
  obtain ⟨q1, h1⟩ : ∃ q, fewM m = q := ⟨_, rfl⟩
  obtain ⟨q2, h2⟩ : ∃ q, FewI env = q := ⟨_, rfl⟩
  have H1 := Lib.hid h1
  have H2 := Lib.hid h2
  simp only [h1] at hfe hcp
  simp only [h2] at hfi
  simp only [mdlCells] at hfe hcp ⊢
  have HFE := Lib.hid hfe
  have HFI := Lib.hid hfi
  have HCP := Lib.hid hcp
  clear hfe hfi hcp hm he hel h1 h2 hp hj1 hj2 hec hT
  go_enter Tryz.func3, Tryz.ntmps3
  go_upto_region 1 with fail
  obtain ⟨W, hWq, d0, hb, hz⟩ := laidNX w #[.string m.name, .slice ia m.imps.length ic, .slice da m.decls.length dc] 25
  rewrite [← hWq]; clear hWq
  have BC := Lib.hid hb
  have D0 := Lib.hid d0
  clear hb d0 hz
  obtain ⟨m0, m1, m2⟩ := cellsT3 D0.out
  have ml := D0.out.lt
  go_upto_region 4 with (first
    | (go_at_call 6; refine (up10_c _).mono ?_; rintro e wn ⟨rfl, hb⟩; have D0 := Lib.hid (D0.out.under hb D0.out.lt); have BC := Lib.hid (BC.out.trans (hb.mono BC.out.size)); clear hb; clear m0 m1 m2 ml; obtain ⟨m0, m1, m2⟩ := cellsT3 D0.out; have ml := D0.out.lt)
    | (go_at_call 7; refine (HFE.out _ BC.out).mono ?_; rintro e wn ⟨rfl, hb⟩; have D0 := Lib.hid (D0.out.under hb D0.out.lt); have BC := Lib.hid (BC.out.trans (hb.mono BC.out.size)); clear hb; clear m0 m1 m2 ml; obtain ⟨m0, m1, m2⟩ := cellsT3 D0.out; have ml := D0.out.lt)
    | (go_at_call 8; refine (HFI.out _ BC.out).mono ?_; rintro e wn ⟨rfl, hb⟩; have D0 := Lib.hid (D0.out.under hb D0.out.lt); have BC := Lib.hid (BC.out.trans (hb.mono BC.out.size)); clear hb; clear m0 m1 m2 ml; obtain ⟨m0, m1, m2⟩ := cellsT3 D0.out; have ml := D0.out.lt))
  cases q1
  · go_wp2_with fail
    go_ret
    exact ⟨rfl, BC.out⟩
  cases q2
  · go_wp2_with fail
    go_ret
    exact ⟨rfl, BC.out⟩
  by_cases h5 : 500 < (pkg.size : Int)
  · go_wp2_with fail
    go_ret
    exact ⟨rfl, BC.out⟩
  by_cases h0 : m.decls.length = 0
  · have h0I : (m.decls.length : Int) = 0 := by omega
    have h0b : ((m.decls.length : Int) == 0) = true := by rw [h0I]; rfl
    clear h0 h0I
    go_wp2_with fail
    go_ret
    exact ⟨rfl, BC.out⟩
  have h0b : ((m.decls.length : Int) == 0) = false := by simpa using h0
  obtain ⟨hl1, hl2⟩ := fewM_len H1.out
  have hn0 : (0 : Int) < (m.decls.length : Int) := by omega
  have hnne : (m.decls.length : Int) ≠ 0 := by omega
  clear HFE HFI
  go_upto_region 7 with (go_at_call 9; refine (HCP.out _ BC.out rfl).mono ?_; rintro e wA ⟨ia1, ic1, da1, dc1, rfl, hm1, hb⟩; simp only [mdlCells]; have HM1 := Lib.hid hm1; clear hm1; have D0 := Lib.hid (D0.out.under hb D0.out.lt); have BC := Lib.hid (BC.out.trans (hb.mono BC.out.size)); clear hb; clear m0 m1 m2 ml; obtain ⟨m0, m1, m2⟩ := cellsT3 D0.out; have ml := D0.out.lt)
  clear m0 m1 m2 ml
  obtain ⟨WA, hWq, bN, hb, hzN⟩ := laidNX wA #[.string m.name, .slice ia1 m.imps.length ic1, .slice da1 m.decls.length dc1] 25
  rewrite [← hWq]; clear hWq
  have D0 := Lib.hid (D0.out.under hb D0.out.lt)
  have HM1 := Lib.hid (HM1.out.under hb)
  have HZA := Lib.hid hb.size
  have HBA := Lib.hid BC.out.size
  have BC := Lib.hid (BC.out.trans (hb.mono BC.out.size))
  have D1 := Lib.hid bN
  clear bN hb hzN
  obtain ⟨m0, m1, m2⟩ := cellsT3 D0.out
  have ml := D0.out.lt
  obtain ⟨k0, k1, k2⟩ := cellsT3 D1.out
  have kl := D1.out.lt
  have hsw : w.heap.size ≤ wA.heap.size := HBA.out
  have hE1 : EnvC WA wA.heap.size ⟨m, pkg, j, env⟩ ia1 ic1 da1 dc1 ea ec := env_of2 HM1.out ((HE.out.under BC.out).mono hsw) H1.out H2.out HP.out HEC.out HJ.out
  obtain ⟨q, hq⟩ : ∃ q, bldF ⟨m, pkg, j, env⟩ C X = q := ⟨_, rfl⟩
  obtain ⟨x, hx⟩ : ∃ x, q.2.2 = x := ⟨_, rfl⟩
  obtain ⟨r, hr⟩ : ∃ r, errB q = r := ⟨_, rfl⟩
  have hbd := bldR_c ⟨m, pkg, j, env⟩ C X ia1 ic1 da1 dc1 ea ec wA.heap.size WA hE1 HZA.out HT0.out hq hx hr
  simp only [mdlCells] at hbd
  have HBD := Lib.hid hbd
  have HQ := Lib.hid hq
  have HX := Lib.hid hx
  have HR := Lib.hid hr
  have BA := Lib.hid (Below.refl WA.heap.size WA)
  clear hbd hE1 hq hx hr hsw
  go_upto_region 8 with (go_at_call 10; refine (HBD.out).mono ?_; rintro e wB ⟨cs, v, rfl, hif, her, hb⟩; obtain ⟨hfx, ta, tc, va, vc, rfl, ht, hv, -, -⟩ := hif; simp only [ifCells]; have HT := Lib.hid ht; have HV := Lib.hid hv; have HFX := Lib.hid hfx; have HER := Lib.hid her; have BA := Lib.hid (BA.out.trans hb); clear ht hv hfx her; have D0 := Lib.hid (D0.out.under hb D0.out.lt); have D1 := Lib.hid (D1.out.under hb D1.out.lt); have BC := Lib.hid (BC.out.trans (hb.mono BC.out.size)); clear hb; clear m0 m1 m2 k0 k1 k2 ml kl; obtain ⟨m0, m1, m2⟩ := cellsT3 D0.out; have ml := D0.out.lt; obtain ⟨k0, k1, k2⟩ := cellsT3 D1.out; have kl := D1.out.lt)
  clear m0 m1 m2 k0 k1 k2 ml kl
  obtain ⟨WB, hWq, bN, hb, hzN⟩ := laidNX wB #[.string x.pkg, .int .i64 x.major, .string x.mod, .slice ta x.types.length tc, .slice va x.vals.length vc] 33
  rewrite [← hWq]; clear hWq
  have D0 := Lib.hid (D0.out.under hb D0.out.lt)
  have D1 := Lib.hid (D1.out.under hb D1.out.lt)
  have HT := Lib.hid (HT.out.under hb)
  have HV := Lib.hid (HV.out.under hb)
  have HZB := Lib.hid hb.size
  have BA := Lib.hid (BA.out.trans (hb.mono BA.out.size))
  have BC := Lib.hid (BC.out.trans (hb.mono BC.out.size))
  have D2 := Lib.hid bN
  clear bN hb hzN
  obtain ⟨m0, m1, m2⟩ := cellsT3 D0.out
  have ml := D0.out.lt
  obtain ⟨k0, k1, k2⟩ := cellsT3 D1.out
  have kl := D1.out.lt
  obtain ⟨e0, e1, e2, e3, e4⟩ := cellsT5 D2.out
  have el := D2.out.lt
  have hsa := sameM_c m ia1 ic1 da1 dc1 ia ic da dc wA.heap.size WB (HM1.out.under (BA.out.mono HZA.out)) ((HM.out.under BC.out).mono HBA.out) (Nat.le_trans HZA.out BA.out.size) hl1 hl2
  simp only [mdlCells] at hsa
  have HSA := Lib.hid hsa
  clear hsa
  go_upto_region 10 with (go_at_call 11; refine (HSA.out).mono ?_; rintro e wC ⟨rfl, hb⟩; have HT := Lib.hid (HT.out.under (hb.mono HZB.out)); have HV := Lib.hid (HV.out.under (hb.mono HZB.out)); have HZB := Lib.hid (Nat.le_trans HZB.out hb.size); have D0 := Lib.hid (D0.out.under hb D0.out.lt); have D1 := Lib.hid (D1.out.under hb D1.out.lt); have D2 := Lib.hid (D2.out.under hb D2.out.lt); have BC := Lib.hid (BC.out.trans (hb.mono BC.out.size)); clear hb; clear m0 m1 m2 k0 k1 k2 e0 e1 e2 e3 e4 ml kl el; obtain ⟨m0, m1, m2⟩ := cellsT3 D0.out; have ml := D0.out.lt; obtain ⟨k0, k1, k2⟩ := cellsT3 D1.out; have kl := D1.out.lt; obtain ⟨e0, e1, e2, e3, e4⟩ := cellsT5 D2.out; have el := D2.out.lt)
  go_upto_if 59 with fail
  go_cut [4] (fun v wx => ∃ a : Int, v = .int .i64 a ∧ 0 ≤ a ∧ a ≤ 9223372036854775807 ∧ wx = wC)
  case first =>
    by_cases hneg : at_ < 0
    · go_wp2_with fail
      go_meet
      exact ⟨-(at_ + 1), by go_num, by omega, by omega, rfl⟩
    · go_wp2_with fail
      go_meet
      exact ⟨at_, rfl, by omega, by omega, rfl⟩
  case rest =>
    obtain ⟨a, rfl, ha1, ha2, rfl⟩ := hcut
    have hk1 : 0 ≤ a % (m.decls.length : Int) := Int.emod_nonneg _ hnne
    have hk2 : a % (m.decls.length : Int) < m.decls.length := Int.emod_lt_of_pos _ hn0
    obtain ⟨k, hkk⟩ : ∃ k : Nat, a % (m.decls.length : Int) = (k : Int) := ⟨(a % (m.decls.length : Int)).toNat, by omega⟩
    rename World => wC
    go_upto_region 13 with fail
    rw [hkk] at hk2
    simp only [hkk]
    have hkI : (k : Int) < (m.decls.length : Int) := hk2
    have hk0 : (0 : Int) ≤ (k : Int) := by omega
    have hkn : k < m.decls.length := by omega
    clear hk1 hk2 hkk ha1 ha2
    go_upto_region 14 with (go_at_call 9; refine (HCP.out _ BC.out (by first | rfl | trivial)).mono ?_; rintro e W4 ⟨ia', ic', da', dc', rfl, hm4, hb⟩; try simp only [mdlCells]; have HM4 := Lib.hid hm4; have HT := Lib.hid (HT.out.under (hb.mono HZB.out)); have HV := Lib.hid (HV.out.under (hb.mono HZB.out)); have HZB := Lib.hid (Nat.le_trans HZB.out hb.size); clear hm4; have D0 := Lib.hid (D0.out.under hb D0.out.lt); have D1 := Lib.hid (D1.out.under hb D1.out.lt); have D2 := Lib.hid (D2.out.under hb D2.out.lt); have BC := Lib.hid (BC.out.trans (hb.mono BC.out.size)); clear hb; clear m0 m1 m2 k0 k1 k2 e0 e1 e2 e3 e4 ml kl el; obtain ⟨m0, m1, m2⟩ := cellsT3 D0.out; have ml := D0.out.lt; obtain ⟨k0, k1, k2⟩ := cellsT3 D1.out; have kl := D1.out.lt; obtain ⟨e0, e1, e2, e3, e4⟩ := cellsT5 D2.out; have el := D2.out.lt)
    clear m0 m1 m2 k0 k1 k2 e0 e1 e2 e3 e4 ml kl el
    have B4 := BC
    have D4 := D0
    obtain ⟨fd, hrow, hels⟩ := HM4.out.decls
    obtain ⟨b, o, hda, hbw⟩ : ∃ b o, da' = some ⟨b, o, none⟩ ∧ b < W4.heap.size := by
      rcases hrow with h | ⟨b, o, h1, h2, -⟩
      · omega
      · exact ⟨b, o, h1, h2⟩
    obtain rfl := hda
    have hcap := HM4.out.dcap
    have hcapI : (m.decls.length : Int) ≤ (dc' : Int) := by omega
    have hkcI : (k : Int) ≤ (dc' : Int) := by omega
    have hkd : ¬ dc' = k := by omega
    have hkle : (k : Int) ≤ (m.decls.length : Int) := by omega
    obtain ⟨W5, hWq, b5, hb5, hz5⟩ := laidNX W4 #[.string m.name, .slice ia' m.imps.length ic', .slice (some ⟨b, o, none⟩) m.decls.length dc'] 25
    rewrite [← hWq]; clear hWq
    have HM5 := Lib.hid (HM4.out.under hb5)
    have B5 := Lib.hid (B4.out.trans (hb5.mono B4.out.size))
    have D5 := Lib.hid (D4.out.under hb5 D4.out.lt)
    have D15 := Lib.hid (D1.out.under hb5 D1.out.lt)
    have D25 := Lib.hid (D2.out.under hb5 D2.out.lt)
    have L0 := Lib.hid D0.out.lt
    have L1' := Lib.hid D1.out.lt
    have L2' := Lib.hid D2.out.lt
    have HT5 := Lib.hid (HT.out.under (hb5.mono HZB.out))
    have HV5 := Lib.hid (HV.out.under (hb5.mono HZB.out))
    have N5 := Lib.hid b5
    have HB45 := Lib.hid hb5
    have x2 := b5.cell 2
    simp at x2
    have l5 := b5.lt
    clear hb5 b5 hrow hels fd hcap hz5
    obtain ⟨f1, r1, el1⟩ := HM5.out.decls.drop k
    obtain ⟨f2, r2, el2⟩ := HM5.out.decls.take k
    have e1 : (m.decls.drop k).length = m.decls.length - k := List.length_drop ..
    have e2 : (m.decls.take k).length = k := by rw [List.length_take]; omega
    have S1 := Lib.hid (rows_src (by decide) r1 (fun i h => (el1 i h).size))
    have S2 := Lib.hid (rows_src (by decide) r2 (fun i h => (el2 i h).size))
    have L1 := Lib.hid (flatK_len (K := 9) (f := f1) (n := (m.decls.drop k).length) (fun i h => (el1 i h).size))
    have L2 := Lib.hid (flatK_len (K := 9) (f := f2) (n := (m.decls.take k).length) (fun i h => (el2 i h).size))
    have O1 := Lib.hid (flatK_one (K := 9) (f := f1) (n := (m.decls.drop k).length) (fun i h => (el1 i h).one))
    have O2 := Lib.hid (flatK_one (K := 9) (f := f2) (n := (m.decls.take k).length) (fun i h => (el2 i h).one))
    have EL1 := Lib.hid el1
    have EL2 := Lib.hid el2
    have E1 := Lib.hid e1
    have E2 := Lib.hid e2
    rw [e1] at S1 L1 O1
    rw [e2] at S2 L2 O2
    obtain ⟨i0, hi, hz0, hzz1, hzz2⟩ := info_parts infoDcl
    clear r1 r2 el1 el2 e1 e2
    go_upto_region 14 with fail
    refine wp_region_until [(5, fun w' => w'.cell? ⟨W4.heap.size, 2, none⟩ = some (.slice (some ⟨b, o, none⟩) m.decls.length dc')), (10, fun w' => w'.cell? ⟨W4.heap.size, 2, none⟩ = some (.slice (some ⟨b, o, none⟩) m.decls.length dc'))] (by kernel_rfl) (Until.cons (fun _ => x2) (Until.cons (fun _ => x2) Until.nil)) (fun hU => ?_)
    refine AnyU.take (i := 1) (v := ?_) rfl (by kernel_rfl) (by kernel_rfl) (by kernel_rfl) (fun _ _ _ h => h) (by kernel_rfl) (by assumption) (by rfl) ?_ (fun hV => ?_)
    rotate_left 1
    · (intro wq; go_simp; try with_reducible rfl)
    clear hU; have hU := hV; clear hV
    try simp only [Act.put, aput]
    refine AnyU.loadc (i := 2) (d := 5) [4, 5] (Si := fun w' => w'.cell? ⟨W4.heap.size, 2, none⟩ = some (.slice (some ⟨b, o, none⟩) m.decls.length dc')) (v := ?_) rfl (by kernel_rfl) (by kernel_rfl) (by kernel_rfl) (fun _ _ _ h => h) (by kernel_rfl) (by assumption) (by kernel_rfl) rfl (by simp) (by rfl) ?_ (fun hV => ?_)
    rotate_left 1
    · (intro wq hq; go_simp; try with_reducible rfl)
    clear hU; have hU := hV; clear hV
    try simp only [Act.put, aput]
    refine AnyU.take (i := 3) (v := ?_) rfl (by kernel_rfl) (by kernel_rfl) (by kernel_rfl) (fun _ _ _ h => h) (by kernel_rfl) (by assumption) (by rfl) ?_ (fun hV => ?_)
    rotate_left 1
    · (intro wq; go_simp; try with_reducible rfl)
    clear hU; have hU := hV; clear hV
    try simp only [Act.put, aput]
    refine AnyU.take (i := 4) (v := ?_) rfl (by kernel_rfl) (by kernel_rfl) (by kernel_rfl) (fun _ _ _ h => h) (by kernel_rfl) (by assumption) (by rfl) ?_ (fun hV => ?_)
    rotate_left 1
    · (intro wq; go_simp; try with_reducible rfl)
    clear hU; have hU := hV; clear hV
    try simp only [Act.put, aput]
    refine AnyU.take (i := 6) (v := ?_) rfl (by kernel_rfl) (by kernel_rfl) (by kernel_rfl) (fun _ _ _ h => h) (by kernel_rfl) (by assumption) (by rfl) ?_ (fun hV => ?_)
    rotate_left 1
    · (intro wq; go_simp; try with_reducible rfl)
    clear hU; have hU := hV; clear hV
    try simp only [Act.put, aput]
    refine AnyU.loadc (i := 7) (d := 10) [9, 10] (Si := fun w' => w'.cell? ⟨W4.heap.size, 2, none⟩ = some (.slice (some ⟨b, o, none⟩) m.decls.length dc')) (v := ?_) rfl (by kernel_rfl) (by kernel_rfl) (by kernel_rfl) (fun _ _ _ h => h) (by kernel_rfl) (by assumption) (by kernel_rfl) rfl (by simp) (by rfl) ?_ (fun hV => ?_)
    rotate_left 1
    · (intro wq hq; go_simp; try with_reducible rfl)
    clear hU; have hU := hV; clear hV
    try simp only [Act.put, aput]
    refine AnyU.take (i := 8) (v := ?_) rfl (by kernel_rfl) (by kernel_rfl) (by kernel_rfl) (fun _ _ _ h => h) (by kernel_rfl) (by assumption) (by rfl) ?_ (fun hV => ?_)
    rotate_left 1
    · (intro wq; go_simp; try with_reducible rfl)
    clear hU; have hU := hV; clear hV
    try simp only [Act.put, aput]
    refine AnyU.take (i := 9) (v := ?_) rfl (by kernel_rfl) (by kernel_rfl) (by kernel_rfl) (fun _ _ _ h => h) (by kernel_rfl) (by assumption) (by rfl) ?_ (fun hV => ?_)
    rotate_left 1
    · (intro wq; go_simp; try with_reducible rfl)
    clear hU; have hU := hV; clear hV
    try simp only [Act.put, aput]
    try rw [if_neg hkd]
    refine AnyU.ready1 (i := 0) (by kernel_rfl) (AnyU.one rfl fun K hK => ?_)
    go_simp
    obtain ⟨hbk, hbX, hsX⟩ := laidD W5 #[] 55
    have hoX : (W5.alloc (.cells #[] 55)).drew.ownsRow W5.heap.size 55 9 (.slice (some ⟨W5.heap.size, 0, none⟩) 0 0) 0 [] := World.ownsRow_lit (base := W5.heap.size) (e := 55) (size := 9) W5 #[] 0 (Nat.le_refl _) (by unfold maxLen; omega) rfl
    generalize hX3 : (W5.alloc (.cells #[] 55)).drew = X at hbk hbX hsX hoX ⊢
    clear hX3 hbk
    have x2 := (hbX.cell (p := ⟨W4.heap.size, 2, none⟩) l5).trans x2
    have lX : W4.heap.size < X.heap.size := by omega
    have HBX := Lib.hid hbX
    have HOX := Lib.hid hoX
    have S1X := Lib.hid (fun j u hj => (hbX.cell (p := (⟨b, o + k * 9, none⟩ : Addr).add j) (by rw [addN]; show b < W5.heap.size; omega)).trans (S1.out j u hj))
    have S2X := Lib.hid (fun j u hj => (hbX.cell (p := (⟨b, o, none⟩ : Addr).add j) (by rw [addN]; show b < W5.heap.size; omega)).trans (S2.out j u hj))
    clear hbX hoX
    refine hK.out _ _ (Until.cons (fun _ => x2) (Until.cons (fun _ => x2) Until.nil)) (fun hV => ?_)
    clear hK K
    clear hU; have hU := hV; clear hV
    try simp only [Act.put, aput]
    refine AnyU.ready1 (i := 5) (by kernel_rfl) (AnyU.one rfl fun K hK => ?_)
    refine step_append_own2 rfl _ _ 23 rfl W5.heap.size 55 i0 (.agg #[.int .i64 0, .string { data := #[] }, .int .i64 0, .string { data := #[] }, .int .i64 0, .string { data := #[] }, .string { data := #[] }, .slice none 0 0, .slice none 0 0]) 9 136 Tryz.underlying23 hi hz0 hzz1 hzz2 rfl (by decide) (.slice (some ⟨W5.heap.size, 0, none⟩) 0 0) 0 [] rfl HOX.out ⟨b, o + k * 9, none⟩ (m.decls.length - k) (dc' - k) (flatK f1 (m.decls.length - k)) rfl L1.out S1X.out O1.out (by unfold maxLen; omega) (by omega) (by omega) ?_
    intro v1 w1 hown1 hg1 hfr1
    simp only [Nat.zero_add, List.nil_append] at hown1
    have hne1 : ∀ q, q < W5.heap.size → some q ≠ (Value.slice (some ⟨W5.heap.size, 0, none⟩) 0 0).ownBlock := fun q hq e => by
      have e : q = W5.heap.size := by simpa [Value.ownBlock] using e
      omega
    have x2 := (hg1.cell_far ⟨W4.heap.size, 2, none⟩ lX (hne1 _ l5)).trans x2
    have S2W := Lib.hid (fun j u hj => (hg1.cell_far ((⟨b, o, none⟩ : Addr).add j) (by rw [addN]; show b < X.heap.size; omega) (hne1 _ (by rw [addN]; show b < W5.heap.size; omega))).trans (S2X.out j u hj))
    have HG1 := Lib.hid hg1
    have HO1 := Lib.hid hown1
    have hs1 := hg1.size
    clear hown1 hg1 hfr1 hne1
    refine hK.out _ _ (Until.cons (fun h => absurd h (by decide)) (Until.cons (fun _ => x2) Until.nil)) (fun hV => ?_)
    clear hK K
    clear hU; have hU := hV; clear hV
    try simp only [Act.put, aput]
    refine AnyU.ready1 (i := 10) (by kernel_rfl) (AnyU.one rfl fun K hK => ?_)
    refine step_append_own2 rfl _ _ 23 rfl W5.heap.size 55 i0 (.agg #[.int .i64 0, .string { data := #[] }, .int .i64 0, .string { data := #[] }, .int .i64 0, .string { data := #[] }, .string { data := #[] }, .slice none 0 0, .slice none 0 0]) 9 136 Tryz.underlying23 hi hz0 hzz1 hzz2 rfl (by decide) v1 (m.decls.length - k) (flatK f1 (m.decls.length - k)) rfl HO1.out ⟨b, o, none⟩ k dc' (flatK f2 k) rfl L2.out S2W.out O2.out (by unfold maxLen; omega) (by omega) (by omega) ?_
    intro v2 w2 hown2 hg2 hfr2
    have hlo1 : ∀ q, v1.ownBlock = some q → W5.heap.size ≤ q := fun q hq => (owns_lt HO1.out hq).1
    have hbW : Below W5.heap.size W5 w2 := (HBX.out.grown HG1.out HBX.out.size (fun q hq => by
      have hq : W5.heap.size = q := by simpa [Value.ownBlock] using hq
      omega)).grown hg2 (by omega) hlo1
    have hN2 := N5.out.under hbW N5.out.lt
    have hLL : ∃ L, m.decls.drop k ++ m.decls.take k = L := ⟨_, rfl⟩
    obtain ⟨L, hL⟩ := hLL
    have hE1 : ∀ i (h : i < (m.decls.drop k).length), DclC w2 W4.heap.size (m.decls.drop k)[i] (f1 i) := fun i hi => (EL1.out i hi).keep fun p hp => hbW.cell (by omega)
    have hE2 : ∀ i (h : i < (m.decls.take k).length), DclC w2 W4.heap.size (m.decls.take k)[i] (f2 i) := fun i hi => (EL2.out i hi).keep fun p hp => hbW.cell (by omega)
    have hcat := dcls_cat E1.out E2.out hown2 hE1 hE2 (by have := hbW.size; omega)
    rw [hL] at hcat
    obtain ⟨A, c, rfl, -, -⟩ := hcat
    have x2' := hN2.cell 2
    have y2' := hN2.free 2
    have l2' := hN2.lt
    simp at x2'
    have HO2 := Lib.hid hown2
    have HBW := Lib.hid hbW
    have HN2 := Lib.hid hN2
    have HL := Lib.hid hL
    have HE1 := Lib.hid hE1
    have HE2 := Lib.hid hE2
    clear hown2 hg2 hfr2 hlo1 hbW hN2 hL hE1 hE2 x2
    refine hK.out _ _ (Until.offT (by kernel_rfl)) (fun hV => ?_)
    clear hK K
    clear hU; have hU := hV; clear hV
    try simp only [Act.put, aput]
    refine AnyU.take (i := 11) (v := ?_) rfl (by kernel_rfl) (by kernel_rfl) (by kernel_rfl) (fun _ _ _ h => h) (by kernel_rfl) (by assumption) (by rfl) ?_ (fun hV => ?_)
    rotate_left 1
    · (intro wq; go_simp; try with_reducible rfl)
    clear hU; have hU := hV; clear hV
    try simp only [Act.put, aput]
    refine AnyU.ready1 (i := 12) (by kernel_rfl) (AnyU.one rfl fun K hK => ?_)
    go_simp
    have hbf : Below W4.heap.size W5 (w2.setCell ⟨W4.heap.size, 2, none⟩ (.slice A L.length c)) := (HBW.out.mono (Nat.le_of_lt N5.out.lt)).setCell (p := ⟨W4.heap.size, 2, none⟩) (Nat.le_refl _) _
    have hof := owns_keep (w' := w2.setCell ⟨W4.heap.size, 2, none⟩ (.slice A L.length c)) HO2.out fun g hg => Below.heap_setCell w2 ⟨W4.heap.size, 2, none⟩ (.slice A L.length c) g (by have := (owns_lt HO2.out hg).1; show g ≠ W4.heap.size; omega)
    have hnf : Blk (w2.setCell ⟨W4.heap.size, 2, none⟩ (.slice A L.length c)) W4.heap.size #[.string m.name, .slice ia' m.imps.length ic', .slice A L.length c] 25 := by have := HN2.out.set 2 (.slice A L.length c); simpa using this
    have hd1 : Blk (w2.setCell ⟨W4.heap.size, 2, none⟩ (.slice A L.length c)) w.heap.size #[.string m.name, .slice ia m.imps.length ic, .slice da m.decls.length dc] 25 := (D5.out.under HBW.out D5.out.lt).far _ _ (by have := D4.out.lt; show w.heap.size ≠ W4.heap.size; omega)
    generalize w2.setCell ⟨W4.heap.size, 2, none⟩ (.slice A L.length c) = Wf at hbf hof hnf hd1 ⊢
    refine hK.out _ _ (Until.offT (by kernel_rfl)) (fun hV => ?_)
    clear hK K
    clear hU; have hU := hV; clear hV
    try simp only [Act.put, aput]
    refine AnyU.done (by kernel_rfl) ?_
    clear hU x2' y2' l2'
    have BF := Lib.hid (B4.out.trans ((HB45.out.trans (hbf.mono (Nat.le_refl _))).mono B4.out.size))
    have hcat := dcls_cat E1.out E2.out hof (fun i hi => (EL1.out i hi).keep fun p hp => hbf.cell hp) (fun i hi => (EL2.out i hi).keep fun p hp => hbf.cell hp) (by have := hbf.size; omega)
    rw [HL.out] at hcat
    obtain ⟨A2, c2, hcc, hlc, hdf⟩ := hcat
    cases hcc
    have hL2 : L.length = m.decls.length := by rw [← HL.out, List.length_append, E1.out, E2.out]; omega
    have hm2 : MdlC Wf Wf.heap.size ⟨m.name, m.imps, L⟩ ia' ic' A c := ⟨HM5.out.name, (HM5.out.imps.keep fun p hp => hbf.cell hp).mono (by have := hbf.size; omega), hdf, HM5.out.nImps, by show L.length ≤ maxLen; rw [hL2]; exact HM5.out.nDecls, HM5.out.icap, hlc⟩
    have HBF := Lib.hid hbf
    have E0F := Lib.hid (show Blk Wf w.heap.size _ _ from (hbf.block _ L0.out).trans D5.out)
    have E1F := Lib.hid (show Blk Wf wA.heap.size _ _ from (hbf.block _ L1'.out).trans D15.out)
    have E2F := Lib.hid (show Blk Wf wB.heap.size _ _ from (hbf.block _ L2'.out).trans D25.out)
    have HTF := Lib.hid (HT5.out.under (hbf.mono HZB.out))
    have HVF := Lib.hid (HV5.out.under (hbf.mono HZB.out))
    have HZF := Lib.hid (Nat.le_trans HZB.out (Nat.le_trans HB45.out.size hbf.size))
    have NF := Lib.hid hnf
    obtain ⟨C2, X2, hT2⟩ := tells_all ⟨⟨m.name, m.imps, L⟩, pkg, j, env⟩
    have hturn := bld_turn (E := ⟨m, pkg, j, env⟩) (E' := ⟨⟨m.name, m.imps, L⟩, pkg, j, env⟩) rfl rfl (by
      show m.decls.Perm L
      rw [← HL.out]
      have := List.perm_append_comm (l₁ := m.decls.take k) (l₂ := m.decls.drop k)
      rwa [List.take_append_drop] at this) rfl rfl rfl HT0.out hT2
    have hmay := bld_may HT0.out
    have henv : EnvC Wf Wf.heap.size ⟨⟨m.name, m.imps, L⟩, pkg, j, env⟩ ia' ic' A c ea ec := by
      obtain ⟨h3, h4⟩ := fewI_len2 H2.out
      exact ⟨hm2, (HE.out.under BF.out).mono BF.out.size, by show L.length ≤ _; omega, by show m.imps.length ≤ _; omega, by show env.length ≤ _; omega, fun x hx => by have := (h4 x hx).1; omega, HP.out, HEC.out, HJ.out⟩
    obtain ⟨q', hq'⟩ : ∃ q, bldF ⟨⟨m.name, m.imps, L⟩, pkg, j, env⟩ C2 X2 = q := ⟨_, rfl⟩
    obtain ⟨y, hy⟩ : ∃ x, q'.2.2 = x := ⟨_, rfl⟩
    obtain ⟨r', hr'⟩ : ∃ r, errB q' = r := ⟨_, rfl⟩
    have hbd := bldR_c ⟨⟨m.name, m.imps, L⟩, pkg, j, env⟩ C2 X2 ia' ic' A c ea ec Wf.heap.size Wf henv (Nat.le_refl _) hT2 hq' hy hr'
    rw [HQ.out, hq'] at hturn
    rw [HQ.out] at hmay
    obtain ⟨ht1, ht2⟩ := hturn
    rw [HX.out] at hmay
    rw [HX.out, hy] at ht2
    have HIFF := Lib.hid (show r.isNone = true ↔ r'.isNone = true by rw [← HR.out, ← hr', errB_none, errB_none]; exact ht1)
    have HSAM := Lib.hid (show r.isNone = true → x = y from fun h => ht2 (errB_none.1 (by rw [HR.out]; exact h)))
    have HMAY := Lib.hid (show r.isNone = true → imayB x = true from fun h => hmay (errB_none.1 (by rw [HR.out]; exact h)))
    simp only [mdlCells] at hbd
    have HBD2 := Lib.hid hbd
    have D0 := E0F
    have D1 := E1F
    have D2 := E2F
    have D3 := NF
    have BC := BF
    have HT := HTF
    have HV := HVF
    clear hq' hy hr' hbd henv ht1 ht2 hmay hT2 hbf hof hnf hd1 hm2 hdf hlc hL2 l5
    clear HBF E0F E1F E2F NF BF HTF HVF B4 B5 D4 D5 D15 D25 HT5 HV5 HM4 HM5 HM1 HM
    obtain ⟨m0, m1, m2⟩ := cellsT3 D0.out
    have ml := D0.out.lt
    obtain ⟨k0, k1, k2⟩ := cellsT3 D1.out
    have kl := D1.out.lt
    obtain ⟨e0, e1, e2, e3, e4⟩ := cellsT5 D2.out
    have el := D2.out.lt
    obtain ⟨n0, n1, n2⟩ := cellsT3 D3.out
    have nl := D3.out.lt
    go_upto_region 16 with (go_at_call 10; refine (HBD2.out).mono ?_; rintro e wG ⟨cs, v', rfl, hif, her2, hb⟩; obtain ⟨hfy, ta2, tc2, va2, vc2, rfl, ht, hv, -, -⟩ := hif; simp only [ifCells]; have HT2 := Lib.hid ht; have HV2 := Lib.hid hv; have HER2 := Lib.hid her2; have HT := Lib.hid (HT.out.under (hb.mono HZF.out)); have HV := Lib.hid (HV.out.under (hb.mono HZF.out)); have HZF := Lib.hid (Nat.le_trans HZF.out hb.size); clear ht hv hfy her2; have D0 := Lib.hid (D0.out.under hb D0.out.lt); have D1 := Lib.hid (D1.out.under hb D1.out.lt); have D2 := Lib.hid (D2.out.under hb D2.out.lt); have D3 := Lib.hid (D3.out.under hb D3.out.lt); have BC := Lib.hid (BC.out.trans (hb.mono BC.out.size)); clear hb; clear m0 m1 m2 k0 k1 k2 e0 e1 e2 e3 e4 n0 n1 n2 ml kl el nl; obtain ⟨m0, m1, m2⟩ := cellsT3 D0.out; have ml := D0.out.lt; obtain ⟨k0, k1, k2⟩ := cellsT3 D1.out; have kl := D1.out.lt; obtain ⟨e0, e1, e2, e3, e4⟩ := cellsT5 D2.out; have el := D2.out.lt; obtain ⟨n0, n1, n2⟩ := cellsT3 D3.out; have nl := D3.out.lt)
    clear m0 m1 m2 k0 k1 k2 e0 e1 e2 e3 e4 n0 n1 n2 ml kl el nl
    obtain ⟨WG, hWq, bN, hb, hzN⟩ := laidNX wG #[.string y.pkg, .int .i64 y.major, .string y.mod, .slice ta2 y.types.length tc2, .slice va2 y.vals.length vc2] 33
    rewrite [← hWq]; clear hWq
    have D0 := Lib.hid (D0.out.under hb D0.out.lt)
    have D1 := Lib.hid (D1.out.under hb D1.out.lt)
    have D2 := Lib.hid (D2.out.under hb D2.out.lt)
    have D3 := Lib.hid (D3.out.under hb D3.out.lt)
    have HT := Lib.hid (HT.out.under (hb.mono HZF.out))
    have HV := Lib.hid (HV.out.under (hb.mono HZF.out))
    have HT2 := Lib.hid (HT2.out.under hb)
    have HV2 := Lib.hid (HV2.out.under hb)
    have HZG := Lib.hid hb.size
    have BC := Lib.hid (BC.out.trans (hb.mono BC.out.size))
    have D4 := Lib.hid bN
    clear bN hb hzN
    obtain ⟨m0, m1, m2⟩ := cellsT3 D0.out
    have ml := D0.out.lt
    obtain ⟨k0, k1, k2⟩ := cellsT3 D1.out
    have kl := D1.out.lt
    obtain ⟨e0, e1, e2, e3, e4⟩ := cellsT5 D2.out
    have el := D2.out.lt
    obtain ⟨n0, n1, n2⟩ := cellsT3 D3.out
    have nl := D3.out.lt
    obtain ⟨o0, o1, o2, o3, o4⟩ := cellsT5 D4.out
    have ol := D4.out.lt
    have hms := fun W' (hb : Below WG.heap.size WG W') => ifMay_c x ta tc va vc wG.heap.size W' HFX.out ((HT.out.mono HZF.out).under (hb.mono HZG.out)) ((HV.out.mono HZF.out).under (hb.mono HZG.out)) (Nat.le_trans HZG.out hb.size)
    have hsm := fun W' (hb : Below WG.heap.size WG W') => refSamI_c x y ta tc va vc ta2 tc2 va2 vc2 wG.heap.size W' HFX.out ((HT.out.mono HZF.out).under (hb.mono HZG.out)) ((HV.out.mono HZF.out).under (hb.mono HZG.out)) (HT2.out.under (hb.mono HZG.out)) (HV2.out.under (hb.mono HZG.out)) (Nat.le_trans HZG.out hb.size)
    simp only [ifCells] at hms hsm
    have HMS := Lib.hid hms
    have HSM := Lib.hid hsm
    have BW := Lib.hid (Below.refl WG.heap.size WG)
    have hI := HIFF.out
    clear hms hsm
    rcases err_form HER.out with ⟨n3, rfl⟩ | ⟨c3, n3, rfl⟩ | ⟨b3, n3, rfl⟩ <;> rcases err_form HER2.out with ⟨n4, rfl⟩ | ⟨c4, n4, rfl⟩ | ⟨b4, n4, rfl⟩
    all_goals rw [n3, n4] at hI
    · have HM2 := Lib.hid (show _ from HMAY.out n3)
      have hxy := HSAM.out n3
      subst hxy
      simp only [HM2.out] at HMS
      simp only [sameI_refl] at HSM
      clear hI n3 n4
      go_wp2_with (first
        | (go_at_call 12; refine (HMS.out _ BW.out).mono ?_; rintro e wn ⟨rfl, hb⟩; have BW := Lib.hid (BW.out.trans (hb.mono BW.out.size)); have D0 := Lib.hid (D0.out.under hb D0.out.lt); have D1 := Lib.hid (D1.out.under hb D1.out.lt); have D2 := Lib.hid (D2.out.under hb D2.out.lt); have D3 := Lib.hid (D3.out.under hb D3.out.lt); have D4 := Lib.hid (D4.out.under hb D4.out.lt); have BC := Lib.hid (BC.out.trans (hb.mono BC.out.size)); clear hb; clear m0 m1 m2 k0 k1 k2 e0 e1 e2 e3 e4 n0 n1 n2 o0 o1 o2 o3 o4 ml kl el nl ol; obtain ⟨m0, m1, m2⟩ := cellsT3 D0.out; have ml := D0.out.lt; obtain ⟨k0, k1, k2⟩ := cellsT3 D1.out; have kl := D1.out.lt; obtain ⟨e0, e1, e2, e3, e4⟩ := cellsT5 D2.out; have el := D2.out.lt; obtain ⟨n0, n1, n2⟩ := cellsT3 D3.out; have nl := D3.out.lt; obtain ⟨o0, o1, o2, o3, o4⟩ := cellsT5 D4.out; have ol := D4.out.lt)
        | (go_at_call 13; refine (HSM.out _ BW.out).mono ?_; rintro e wn ⟨rfl, hb⟩; have BW := Lib.hid (BW.out.trans (hb.mono BW.out.size)); have D0 := Lib.hid (D0.out.under hb D0.out.lt); have D1 := Lib.hid (D1.out.under hb D1.out.lt); have D2 := Lib.hid (D2.out.under hb D2.out.lt); have D3 := Lib.hid (D3.out.under hb D3.out.lt); have D4 := Lib.hid (D4.out.under hb D4.out.lt); have BC := Lib.hid (BC.out.trans (hb.mono BC.out.size)); clear hb; clear m0 m1 m2 k0 k1 k2 e0 e1 e2 e3 e4 n0 n1 n2 o0 o1 o2 o3 o4 ml kl el nl ol; obtain ⟨m0, m1, m2⟩ := cellsT3 D0.out; have ml := D0.out.lt; obtain ⟨k0, k1, k2⟩ := cellsT3 D1.out; have kl := D1.out.lt; obtain ⟨e0, e1, e2, e3, e4⟩ := cellsT5 D2.out; have el := D2.out.lt; obtain ⟨n0, n1, n2⟩ := cellsT3 D3.out; have nl := D3.out.lt; obtain ⟨o0, o1, o2, o3, o4⟩ := cellsT5 D4.out; have ol := D4.out.lt))
      go_ret
      exact ⟨rfl, BC.out⟩
    all_goals first
      | (exfalso; exact absurd hI (by decide))
      | (clear hI n3 n4; go_wp2_with fail; go_ret; exact ⟨rfl, BC.out⟩)
end Go.Proofs.YtjeldfipipkfiaaGreat
