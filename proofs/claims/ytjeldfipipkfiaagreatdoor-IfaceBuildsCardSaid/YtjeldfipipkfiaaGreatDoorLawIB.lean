/- The statement IfaceBuilds: the law's walk. -/
import Derived.Test.YtjeldfipipkfiaaGreatDoorGUpI
import Derived.Test.YtjeldfipipkfiaaGreatDoorRfBld
import Derived.Test.YtjeldfipipkfiaaGreatDoorGErr
namespace Go.Proofs.YtjeldfipipkfiaaGreatDoor
open Go.RowKit
set_option linter.unusedSimpArgs false
set_option linter.unusedVariables false
theorem rbldR_c (E : Env) (C : Ty → Int) (X : Ty → Ty) (ia : Option Addr) (ic : Nat) (da : Option Addr) (dc : Nat) (ea : Option Addr) (ec : Nat) (B : Nat) (w : World) (hE : RbC w B E ia ic da dc ea ec) (hB : B ≤ w.heap.size) (hT : Tells E C X) {q : Int × Option Nat × If} (hq : bldF E C X = q) {x : If} (hx : q.2.2 = x) {r : Option (Int × Option Nat)} (hr : errB q = r) :
    Calls Tryz.prog 39 #[.agg (mdlCells E.m ia ic da dc), .string E.pkg, .int .i64 E.major, .slice ea E.env.length ec] w fun e w' => ∃ cs c p, e = .returned (.tuple #[.agg cs, .int .i64 c, .int .i64 p]) ∧ IfC w' w'.heap.size x cs ∧ (c, p) = numE r ∧ Below w.heap.size w w' := by
  subst hq hx hr
  exact rbld_c E ia ic da dc ea ec B w C X hE hB hT
set_option maxRecDepth 100000 in
set_option maxHeartbeats 40000000 in
theorem ifaceBuilds_c (m : Mdl) (ia : Option Addr) (ic : Nat) (da : Option Addr) (dc : Nat) (pkg : ByteArray) (j : Int) (env : List If) (ea : Option Addr) (ec : Nat) (w : World) (hm : MdlC w w.heap.size m ia ic da dc) (hp : pkg.size ≤ maxLen) (hj1 : -9223372036854775808 ≤ j) (hj2 : j ≤ 9223372036854775807)
    (he : IfsAt w w.heap.size ea env) (hec : env.length ≤ ec) (hel : env.length ≤ maxLen) (hg : HandleE w) :
    Calls Tryz.prog 9 #[.agg (mdlCells m ia ic da dc), .string pkg, .int .i64 j, .slice ea env.length ec] w fun e w' => e = .returned (.bool true) ∧ Below w.heap.size w w' := by
  have HG := Lib.hid hg
  have hfe := fun W (hb : Below w.heap.size w W) => fewM_c m ia ic da dc w.heap.size W (hm.under hb) hb.size
  have hfi := fun W (hb : Below w.heap.size w W) => FewI_c env ea ec w.heap.size W (he.under hb) hb.size hel
  obtain ⟨C, X, hT⟩ := tells_all ⟨m, pkg, j, env⟩
  have HRG := Lib.hid (bld_range hT)
  obtain ⟨q, hq⟩ : ∃ q, bldF ⟨m, pkg, j, env⟩ C X = q := ⟨_, rfl⟩
  obtain ⟨x, hx⟩ : ∃ x, q.2.2 = x := ⟨_, rfl⟩
  obtain ⟨r, hr⟩ : ∃ r, errB q = r := ⟨_, rfl⟩
  have hbd := fun W (hb : Below w.heap.size w W) (hE : EnvC w w.heap.size ⟨m, pkg, j, env⟩ ia ic da dc ea ec) => bldR_c ⟨m, pkg, j, env⟩ C X ia ic da dc ea ec w.heap.size W (hE.under hb) hb.size hT hq hx hr
  have hrb := fun W (hb : Below w.heap.size w W) (hE : RbC w w.heap.size ⟨m, pkg, j, env⟩ ia ic da dc ea ec) => rbldR_c ⟨m, pkg, j, env⟩ C X ia ic da dc ea ec w.heap.size W (hE.under hb) hb.size hT hq hx hr
  rw [hq, hr] at HRG
  clear hq hT hx hr
  obtain ⟨q1, h1⟩ : ∃ q, fewM m = q := ⟨_, rfl⟩
  obtain ⟨q2, h2⟩ : ∃ q, FewI env = q := ⟨_, rfl⟩
  simp only [h1] at hfe
  simp only [h2] at hfi
  simp only [mdlCells] at hfe hbd hrb ⊢
  have HFE := Lib.hid hfe
  have HFI := Lib.hid hfi
  have HBD := Lib.hid hbd
  have HRB := Lib.hid hrb
  have hEN : q1 = true → q2 = true → EnvC w w.heap.size ⟨m, pkg, j, env⟩ ia ic da dc ea ec := fun e1 e2 => env_of2 hm he (h1.trans e1) (h2.trans e2) hp hec ⟨hj1, hj2⟩
  have hRN : q1 = true → q2 = true → RbC w w.heap.size ⟨m, pkg, j, env⟩ ia ic da dc ea ec := fun e1 e2 => by
    obtain ⟨l1, l2⟩ := fewM_len (h1.trans e1)
    obtain ⟨l3, -⟩ := fewI_len2 (h2.trans e2)
    exact ⟨⟨hm, he, by show m.decls.length ≤ _; omega, by show m.imps.length ≤ _; omega, h2.trans e2⟩, hp, hj1, hj2, fewM_many (h1.trans e1), by show env.length ≤ _; omega⟩
  have HEN := Lib.hid hEN
  have HRN := Lib.hid hRN
  clear hfe hfi hbd hrb hm he hel hEN hRN h1 h2 hp hj1 hj2 hec hg
  go_enter Tryz.func9, Tryz.ntmps9
  go_upto_region 1 with fail
  obtain ⟨W, hWq, d0, hb, hz⟩ := laidNX w #[.string m.name, .slice ia m.imps.length ic, .slice da m.decls.length dc] 25
  rewrite [← hWq]; clear hWq
  have BC := Lib.hid hb
  have D0 := Lib.hid d0
  clear hb d0 hz
  obtain ⟨m0, m1, m2⟩ := cellsT3 D0.out
  have ml := D0.out.lt
  go_upto_region 4 with (first
    | (go_at_call 37; refine (up10_c _).mono ?_; rintro e wn ⟨rfl, hb⟩; have D0 := Lib.hid (D0.out.under hb D0.out.lt); have BC := Lib.hid (BC.out.trans (hb.mono BC.out.size)); clear hb; clear m0 m1 m2 ml; obtain ⟨m0, m1, m2⟩ := cellsT3 D0.out; have ml := D0.out.lt)
    | (go_at_call 13; refine (HFE.out _ BC.out).mono ?_; rintro e wn ⟨rfl, hb⟩; have D0 := Lib.hid (D0.out.under hb D0.out.lt); have BC := Lib.hid (BC.out.trans (hb.mono BC.out.size)); clear hb; clear m0 m1 m2 ml; obtain ⟨m0, m1, m2⟩ := cellsT3 D0.out; have ml := D0.out.lt)
    | (go_at_call 26; refine (HFI.out _ BC.out).mono ?_; rintro e wn ⟨rfl, hb⟩; have D0 := Lib.hid (D0.out.under hb D0.out.lt); have BC := Lib.hid (BC.out.trans (hb.mono BC.out.size)); clear hb; clear m0 m1 m2 ml; obtain ⟨m0, m1, m2⟩ := cellsT3 D0.out; have ml := D0.out.lt))
  cases q1
  · go_wp2_with fail
    go_ret
    exact ⟨rfl, BC.out⟩
  cases q2
  · go_wp2_with fail
    go_ret
    exact ⟨rfl, BC.out⟩
  by_cases h5 : 500 < (pkg.size : Int)
  · go_wp2_with fail
    go_ret
    exact ⟨rfl, BC.out⟩
  have HB1 := Lib.hid (fun W (hb : Below w.heap.size w W) => HBD.out W hb (HEN.out rfl rfl))
  have HB2 := Lib.hid (fun W (hb : Below w.heap.size w W) => HRB.out W hb (HRN.out rfl rfl))
  clear HFE HFI HBD HRB HEN HRN
  go_upto_region 7 with (go_at_call 38; refine (HB1.out _ BC.out).mono ?_; rintro e w6 ⟨cs, v, rfl, hif, her, hb⟩; obtain ⟨hfx, ta, tc, va, vc, rfl, ht, hv, -, -⟩ := hif; simp only [ifCells]; have HT := Lib.hid ht; have HV := Lib.hid hv; have HFX := Lib.hid hfx; have HER := Lib.hid her; clear ht hv hfx her; have D0 := Lib.hid (D0.out.under hb D0.out.lt); have BC := Lib.hid (BC.out.trans (hb.mono BC.out.size)); clear hb; clear m0 m1 m2 ml; obtain ⟨m0, m1, m2⟩ := cellsT3 D0.out; have ml := D0.out.lt)
  clear m0 m1 m2 ml
  obtain ⟨W6, hWq, bN, hb, hzN⟩ := laidNX w6 #[.string x.pkg, .int .i64 x.major, .string x.mod, .slice ta x.types.length tc, .slice va x.vals.length vc] 51
  rewrite [← hWq]; clear hWq
  have D0 := Lib.hid (D0.out.under hb D0.out.lt)
  have HT := Lib.hid (HT.out.under hb)
  have HV := Lib.hid (HV.out.under hb)
  have HER := Lib.hid (HER.out.underI hb)
  have HZ6 := Lib.hid hb.size
  have BC := Lib.hid (BC.out.trans (hb.mono BC.out.size))
  have D1 := Lib.hid bN
  clear bN hb hzN
  obtain ⟨m0, m1, m2⟩ := cellsT3 D0.out
  have ml := D0.out.lt
  obtain ⟨e0, e1, e2, e3, e4⟩ := cellsT5 D1.out
  have el := D1.out.lt
  go_upto_region 8 with (go_at_call 39; refine (HB2.out _ BC.out).mono ?_; rintro e w7 ⟨cs, c, p, rfl, hif, hcp, hb⟩; obtain ⟨hfx, ta2, tc2, va2, vc2, rfl, ht, hv, -, -⟩ := hif; simp only [ifCells]; have HT2 := Lib.hid ht; have HV2 := Lib.hid hv; have HCP := Lib.hid hcp; have HT := Lib.hid (HT.out.under (hb.mono HZ6.out)); have HV := Lib.hid (HV.out.under (hb.mono HZ6.out)); have HER := Lib.hid (HER.out.underI hb); have HZ7 := Lib.hid (Nat.le_trans HZ6.out hb.size); clear ht hv hfx hcp; have D0 := Lib.hid (D0.out.under hb D0.out.lt); have D1 := Lib.hid (D1.out.under hb D1.out.lt); have BC := Lib.hid (BC.out.trans (hb.mono BC.out.size)); clear hb; clear m0 m1 m2 e0 e1 e2 e3 e4 ml el; obtain ⟨m0, m1, m2⟩ := cellsT3 D0.out; have ml := D0.out.lt; obtain ⟨e0, e1, e2, e3, e4⟩ := cellsT5 D1.out; have el := D1.out.lt)
  clear m0 m1 m2 e0 e1 e2 e3 e4 ml el
  obtain ⟨W7, hWq, bN, hb, hzN⟩ := laidNX w7 #[.string x.pkg, .int .i64 x.major, .string x.mod, .slice ta2 x.types.length tc2, .slice va2 x.vals.length vc2] 51
  rewrite [← hWq]; clear hWq
  have D0 := Lib.hid (D0.out.under hb D0.out.lt)
  have D1 := Lib.hid (D1.out.under hb D1.out.lt)
  have HT := Lib.hid (HT.out.under (hb.mono HZ7.out))
  have HV := Lib.hid (HV.out.under (hb.mono HZ7.out))
  have HT2 := Lib.hid (HT2.out.under hb)
  have HV2 := Lib.hid (HV2.out.under hb)
  have HER := Lib.hid (HER.out.underI hb)
  have HZ8 := Lib.hid hb.size
  have BC := Lib.hid (BC.out.trans (hb.mono BC.out.size))
  have D2 := Lib.hid bN
  clear bN hb hzN
  obtain ⟨m0, m1, m2⟩ := cellsT3 D0.out
  have ml := D0.out.lt
  obtain ⟨e0, e1, e2, e3, e4⟩ := cellsT5 D1.out
  have el := D1.out.lt
  obtain ⟨o0, o1, o2, o3, o4⟩ := cellsT5 D2.out
  have ol := D2.out.lt
  obtain ⟨rfl, rfl⟩ : c = (numE r).1 ∧ p = (numE r).2 := by rw [← HCP.out]; exact ⟨rfl, rfl⟩
  have hto := fun W' (hb : Below w.heap.size w W') (h : ErrAt W' v r) => told_c v r W' (HG.out.under hb) h HRG.out
  have HTO := Lib.hid hto
  have hsa := fun W' (hb : Below W7.heap.size W7 W') => refSamI_c x x ta tc va vc ta2 tc2 va2 vc2 w7.heap.size W' HFX.out ((HT.out.mono HZ7.out).under (hb.mono HZ8.out)) ((HV.out.mono HZ7.out).under (hb.mono HZ8.out)) (HT2.out.under (hb.mono HZ8.out)) (HV2.out.under (hb.mono HZ8.out)) (Nat.le_trans HZ8.out hb.size)
  simp only [sameI_refl, ifCells] at hsa
  have HSA := Lib.hid hsa
  have BW := Lib.hid (Below.refl W7.heap.size W7)
  clear hto hsa HCP
  go_wp2_with (first
    | (go_at_call 17; refine (HTO.out _ BC.out HER.out).mono ?_; rintro e wn ⟨rfl, hb⟩; have BW := Lib.hid (BW.out.trans (hb.mono BW.out.size)); have D0 := Lib.hid (D0.out.under hb D0.out.lt); have D1 := Lib.hid (D1.out.under hb D1.out.lt); have D2 := Lib.hid (D2.out.under hb D2.out.lt); have BC := Lib.hid (BC.out.trans (hb.mono BC.out.size)); clear hb; clear m0 m1 m2 e0 e1 e2 e3 e4 o0 o1 o2 o3 o4 ml el ol; obtain ⟨m0, m1, m2⟩ := cellsT3 D0.out; have ml := D0.out.lt; obtain ⟨e0, e1, e2, e3, e4⟩ := cellsT5 D1.out; have el := D1.out.lt; obtain ⟨o0, o1, o2, o3, o4⟩ := cellsT5 D2.out; have ol := D2.out.lt)
    | (go_at_call 40; refine (HSA.out _ BW.out).mono ?_; rintro e wn ⟨rfl, hb⟩; have D0 := Lib.hid (D0.out.under hb D0.out.lt); have D1 := Lib.hid (D1.out.under hb D1.out.lt); have D2 := Lib.hid (D2.out.under hb D2.out.lt); have BC := Lib.hid (BC.out.trans (hb.mono BC.out.size)); clear hb; clear m0 m1 m2 e0 e1 e2 e3 e4 o0 o1 o2 o3 o4 ml el ol; obtain ⟨m0, m1, m2⟩ := cellsT3 D0.out; have ml := D0.out.lt; obtain ⟨e0, e1, e2, e3, e4⟩ := cellsT5 D1.out; have el := D1.out.lt; obtain ⟨o0, o1, o2, o3, o4⟩ := cellsT5 D2.out; have ol := D2.out.lt))
  go_ret
  exact ⟨rfl, BC.out⟩
end Go.Proofs.YtjeldfipipkfiaaGreatDoor
