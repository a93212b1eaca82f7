/- The statement ExpandPlain: the law's walk. -/
import Derived.Test.YtjeldfipipkfiaaGreatDoorUp8
import Derived.Test.YtjeldfipipkfiaaGreatDoorCpM
import Derived.Test.YtjeldfipipkfiaaGreatDoorGModS
import Derived.Test.YtjeldfipipkfiaaGreatDoorFewC
namespace Go.Proofs.YtjeldfipipkfiaaGreatDoor
open Go.RowKit
set_option linter.unusedSimpArgs false
set_option linter.unusedVariables false
theorem ExpIs.codes {E : Env} {t y : Ty} {c : Int} (h : ExpIs E t c y) : c = 0 ∨ c = 1 ∨ c = 3 ∨ c = 4 ∨ c = 9 := by
  rcases h with ⟨-, h, -⟩ | ⟨-, -, h, -⟩ | ⟨-, -, -, h, -⟩ | ⟨-, -, -, x, -, ⟨-, h, -⟩ | ⟨-, h, -⟩⟩ <;> omega
theorem ExpIs.unplain {E : Env} {t y : Ty} {c : Int} (h : ExpIs E t c y) (h0 : c ≠ 0) (h1 : c ≠ 1) : PlainB t = false := by
  cases hp : PlainB t with
  | false => rfl
  | true => rcases h.self hp with h | ⟨h, -⟩; exact absurd h h1; exact absurd h h0
theorem codeV_ne {c : Int} (h : c ≠ 0) : codeV c = .iface 70 (.int .i64 c) := by rw [codeV, if_neg h]
theorem codeV_zero : codeV 0 = .nilIface := rfl
theorem alike_self (t : Ty) : alikeT t t = true := (alike_iff t t).2 rfl
theorem codeEq (c : Int) (h : c = 1 ∨ c = 3 ∨ c = 4 ∨ c = 9) (w : World) : (binOp .eql 34 (.iface 70 (.int .i64 c)) (.iface 70 (.int .i64 1))).run Tryz.prog w = .ok (.bool (c == 1)) w := by
  rcases h with rfl | rfl | rfl | rfl <;> kernel_rfl
theorem same_yes {a b : Ty} (h : a = b) {cs cs' : Array Value} {B : Nat} {w : World} (h1 : TyC w B a cs) (h2 : TyC w B b cs') (hB : B ≤ w.heap.size) :
    Calls Tryz.prog 31 #[.agg cs, .agg cs'] w fun e w' => e = .returned (.bool true) ∧ Below w.heap.size w w' := by
  have := rSame_c a b cs cs' B w h1 h2 hB
  rwa [(alike_iff a b).2 h] at this
theorem plain_yes {a : Ty} (h : PlainB a = true) {cs : Array Value} {B : Nat} {w : World} (h1 : TyC w B a cs) (hB : B ≤ w.heap.size) :
    Calls Tryz.prog 36 #[.agg cs] w fun e w' => e = .returned (.bool true) ∧ Below w.heap.size w w' := by
  have := Plain_c a cs B w h1 hB
  rwa [h] at this
theorem fewI_len {l : List If} (h : FewI l = true) : l.length ≤ 200 ∧ ∀ x ∈ l, x.types.length ≤ 200 ∧ x.vals.length ≤ 200 := by
  rw [FewI, Bool.and_eq_true, decide_eq_true_eq, List.all_eq_true] at h
  refine ⟨h.1, fun x hx => ?_⟩
  have := h.2 x hx
  rw [fewX, Bool.and_eq_true, Bool.and_eq_true, decide_eq_true_eq, decide_eq_true_eq] at this
  exact ⟨this.1, this.2.1⟩
theorem env_of {w : World} {B : Nat} {m : Mdl} {pkg : ByteArray} {j : Int} {env : List If} {ia : Option Addr} {ic : Nat} {da : Option Addr} {dc : Nat} {ea : Option Addr} {ec : Nat} (hm : MdlC w B m ia ic da dc) (he : IfsAt w B ea env) (hf : fewM m = true) (hi : FewI env = true) (hp : pkg.size ≤ maxLen) (hc : env.length ≤ ec)
    (hj : -9223372036854775808 ≤ j ∧ j ≤ 9223372036854775807) : EnvC w B ⟨m, pkg, j, env⟩ ia ic da dc ea ec := by
  simp only [fewM, Bool.and_eq_true, decide_eq_true_eq] at hf
  obtain ⟨-, h1, h2, -⟩ := hf
  obtain ⟨h3, h4⟩ := fewI_len hi
  exact ⟨hm, he, by show m.decls.length ≤ _; omega, by show m.imps.length ≤ _; omega, by show env.length ≤ _; omega, fun x hx => by have := (h4 x hx).1; omega, hp, hc, hj⟩
set_option maxRecDepth 100000 in
set_option maxHeartbeats 40000000 in
theorem expandPlain_c (m : Mdl) (ia : Option Addr) (ic : Nat) (da : Option Addr) (dc : Nat) (pkg : ByteArray) (j : Int) (env : List If) (ea : Option Addr) (ec : Nat) (t : Ty) (cs : Array Value) (w : World) (hm : MdlC w w.heap.size m ia ic da dc) (hp : pkg.size ≤ maxLen) (hj1 : -9223372036854775808 ≤ j) (hj2 : j ≤ 9223372036854775807)
    (he : IfsAt w w.heap.size ea env) (hec : env.length ≤ ec) (hel : env.length ≤ maxLen) (ht : TyC w w.heap.size t cs) :
    Calls Tryz.prog 7 #[.agg (mdlCells m ia ic da dc), .string pkg, .int .i64 j, .slice ea env.length ec, .agg cs] w fun e w' => e = .returned (.bool true) ∧ Below w.heap.size w w' := by
  obtain ⟨na, nc, sa, sc, f0, rfl, -⟩ := ht.inv
  have HM := Lib.hid hm
  have HE := Lib.hid he
  have HT := Lib.hid ht
  have hfe := fun W (hb : Below w.heap.size w W) => fewM_c m ia ic da dc w.heap.size W (hm.under hb) hb.size
  have hft := fun W (hb : Below w.heap.size w W) => Few_c t _ w.heap.size W (ht.under hb) hb.size
  have hfi := fun W (hb : Below w.heap.size w W) => FewI_c env ea ec w.heap.size W (he.under hb) hb.size hel
  have hcm := fun W (hb : Below w.heap.size w W) hf => copyM_c m ia ic da dc w.heap.size W (hm.under hb) hb.size hf
  have hct := fun W (hb : Below w.heap.size w W) hf => copy_c t _ w.heap.size W (ht.under hb) hb.size hf
  have hpl := fun W (hb : Below w.heap.size w W) => Plain_c t _ w.heap.size W (ht.under hb) hb.size
  simp only [mdlCells, tyCells] at hfe hft hcm hct hpl ⊢
  have HFE := Lib.hid hfe
  have HFT := Lib.hid hft
  have HFI := Lib.hid hfi
  have HCM := Lib.hid hcm
  have HCT := Lib.hid hct
  have HPL := Lib.hid hpl
  obtain ⟨q1, h1⟩ : ∃ q, fewM m = q := ⟨_, rfl⟩
  obtain ⟨q2, h2⟩ : ∃ q, FewB t = q := ⟨_, rfl⟩
  obtain ⟨q3, h3⟩ : ∃ q, FewI env = q := ⟨_, rfl⟩
  simp only [h1] at HFE HCM
  simp only [h2] at HFT
  simp only [h3] at HFI
  have H1 := Lib.hid h1
  have H2 := Lib.hid h2
  have H3 := Lib.hid h3
  have HP := Lib.hid hp
  clear hfe hft hfi hcm hct hpl hm he ht h1 h2 h3 hp hel
  go_enter Tryz.func7, Tryz.ntmps7
  go_upto_region 1 with fail
  obtain ⟨d0, d1, hz, hb⟩ := twoE w #[.string m.name, .slice ia m.imps.length ic, .slice da m.decls.length dc] #[.int .i64 t.kind, .string t.pkg, .int .i64 t.major, .string t.mod, .string t.name, .slice na t.names.length nc, .slice sa t.subs.length sc] 25 29
  generalize ((w.alloc (.cells #[.string m.name, .slice ia m.imps.length ic, .slice da m.decls.length dc] 25)).alloc (.cells #[.int .i64 t.kind, .string t.pkg, .int .i64 t.major, .string t.mod, .string t.name, .slice na t.names.length nc, .slice sa t.subs.length sc] 29)) = W at hb d0 d1 hz ⊢
  have D0 := Lib.hid d0
  have D1 := Lib.hid d1
  have BC := Lib.hid hb
  clear d0 d1 hb
  obtain ⟨m0, m1, m2⟩ := cellsT3 D0.out
  have ml := D0.out.lt
  obtain ⟨k0, k1, k2, k3, k4, k5, k6⟩ := cellsT7 D1.out
  have kl := D1.out.lt
  go_upto_region 5 with (first
    | (go_at_call 25; refine (up8_c _).mono ?_; rintro e wn ⟨rfl, hb⟩; have D0 := Lib.hid (D0.out.under hb D0.out.lt); have D1 := Lib.hid (D1.out.under hb D1.out.lt); have BC := Lib.hid (BC.out.trans (hb.mono BC.out.size)); clear hb; clear m0 m1 m2 k0 k1 k2 k3 k4 k5 k6 ml kl; obtain ⟨m0, m1, m2⟩ := cellsT3 D0.out; have ml := D0.out.lt; obtain ⟨k0, k1, k2, k3, k4, k5, k6⟩ := cellsT7 D1.out; have kl := D1.out.lt)
    | (go_at_call 13; refine (HFE.out _ BC.out).mono ?_; rintro e wn ⟨rfl, hb⟩; have D0 := Lib.hid (D0.out.under hb D0.out.lt); have D1 := Lib.hid (D1.out.under hb D1.out.lt); have BC := Lib.hid (BC.out.trans (hb.mono BC.out.size)); clear hb; clear m0 m1 m2 k0 k1 k2 k3 k4 k5 k6 ml kl; obtain ⟨m0, m1, m2⟩ := cellsT3 D0.out; have ml := D0.out.lt; obtain ⟨k0, k1, k2, k3, k4, k5, k6⟩ := cellsT7 D1.out; have kl := D1.out.lt)
    | (go_at_call 14; refine (HFT.out _ BC.out).mono ?_; rintro e wn ⟨rfl, hb⟩; have D0 := Lib.hid (D0.out.under hb D0.out.lt); have D1 := Lib.hid (D1.out.under hb D1.out.lt); have BC := Lib.hid (BC.out.trans (hb.mono BC.out.size)); clear hb; clear m0 m1 m2 k0 k1 k2 k3 k4 k5 k6 ml kl; obtain ⟨m0, m1, m2⟩ := cellsT3 D0.out; have ml := D0.out.lt; obtain ⟨k0, k1, k2, k3, k4, k5, k6⟩ := cellsT7 D1.out; have kl := D1.out.lt)
    | (go_at_call 26; refine (HFI.out _ BC.out).mono ?_; rintro e wn ⟨rfl, hb⟩; have D0 := Lib.hid (D0.out.under hb D0.out.lt); have D1 := Lib.hid (D1.out.under hb D1.out.lt); have BC := Lib.hid (BC.out.trans (hb.mono BC.out.size)); clear hb; clear m0 m1 m2 k0 k1 k2 k3 k4 k5 k6 ml kl; obtain ⟨m0, m1, m2⟩ := cellsT3 D0.out; have ml := D0.out.lt; obtain ⟨k0, k1, k2, k3, k4, k5, k6⟩ := cellsT7 D1.out; have kl := D1.out.lt))
  cases q1
  · go_wp2_with fail
    go_ret
    exact ⟨rfl, BC.out⟩
  cases q2
  · go_wp2_with fail
    go_ret
    exact ⟨rfl, BC.out⟩
  cases q3
  · go_wp2_with fail
    go_ret
    exact ⟨rfl, BC.out⟩
  by_cases h5 : 500 < (pkg.size : Int)
  · go_wp2_with fail
    go_ret
    exact ⟨rfl, BC.out⟩
  go_upto_region 8 with (go_at_call 22; refine (HCM.out _ BC.out rfl).mono ?_; rintro e wn ⟨ia2, ic2, da2, dc2, rfl, hO, hb⟩; have D0 := Lib.hid (D0.out.under hb D0.out.lt); have D1 := Lib.hid (D1.out.under hb D1.out.lt); have BC := Lib.hid (BC.out.trans (hb.mono BC.out.size)); simp only [mdlCells]; have HO := Lib.hid hO; clear hO; clear hb; clear m0 m1 m2 k0 k1 k2 k3 k4 k5 k6 ml kl; obtain ⟨m0, m1, m2⟩ := cellsT3 D0.out; have ml := D0.out.lt; obtain ⟨k0, k1, k2, k3, k4, k5, k6⟩ := cellsT7 D1.out; have kl := D1.out.lt)
  clear m0 m1 m2 k0 k1 k2 k3 k4 k5 k6 ml kl
  obtain ⟨bN, hb, hzN⟩ := laidN wn #[.string m.name, .slice ia2 m.imps.length ic2, .slice da2 m.decls.length dc2] 25
  generalize (wn.alloc (.cells #[.string m.name, .slice ia2 m.imps.length ic2, .slice da2 m.decls.length dc2] 25)) = W8 at bN hb hzN ⊢
  have D0 := Lib.hid (D0.out.under hb D0.out.lt)
  have D1 := Lib.hid (D1.out.under hb D1.out.lt)
  have HO := Lib.hid ((HO.out.under hb).mono hb.size)
  have BC := Lib.hid (BC.out.trans (hb.mono BC.out.size))
  have D2 := Lib.hid bN
  clear bN hb hzN
  obtain ⟨m0, m1, m2⟩ := cellsT3 D0.out
  have ml := D0.out.lt
  obtain ⟨k0, k1, k2, k3, k4, k5, k6⟩ := cellsT7 D1.out
  have kl := D1.out.lt
  obtain ⟨o0, o1, o2⟩ := cellsT3 D2.out
  have ol := D2.out.lt
  have hqn := Lib.hid h5
  clear h5
  go_upto_region 9 with (go_at_call 35; refine (HCT.out _ BC.out (few1_of H2.out)).mono ?_; rintro e wn ⟨⟨cs2, rfl, hty⟩, hb⟩; have D0 := Lib.hid (D0.out.under hb D0.out.lt); have D1 := Lib.hid (D1.out.under hb D1.out.lt); have D2 := Lib.hid (D2.out.under hb D2.out.lt); have HO := Lib.hid ((HO.out.under hb).mono hb.size); have BC := Lib.hid (BC.out.trans (hb.mono BC.out.size)); obtain ⟨na2, nc2, sa2, sc2, f2, rfl, -⟩ := hty.inv; simp only [tyCells]; have HN := Lib.hid (hty.mono (M' := (· < wn.heap.size)) fun b hb => hb.2).toC; clear hty; clear hb; clear m0 m1 m2 k0 k1 k2 k3 k4 k5 k6 o0 o1 o2 ml kl ol; obtain ⟨m0, m1, m2⟩ := cellsT3 D0.out; have ml := D0.out.lt; obtain ⟨k0, k1, k2, k3, k4, k5, k6⟩ := cellsT7 D1.out; have kl := D1.out.lt; obtain ⟨o0, o1, o2⟩ := cellsT3 D2.out; have ol := D2.out.lt)
  clear m0 m1 m2 k0 k1 k2 k3 k4 k5 k6 o0 o1 o2 ml kl ol
  obtain ⟨bN, hb, hzN⟩ := laidN wn #[.int .i64 t.kind, .string t.pkg, .int .i64 t.major, .string t.mod, .string t.name, .slice na2 t.names.length nc2, .slice sa2 t.subs.length sc2] 29
  generalize (wn.alloc (.cells #[.int .i64 t.kind, .string t.pkg, .int .i64 t.major, .string t.mod, .string t.name, .slice na2 t.names.length nc2, .slice sa2 t.subs.length sc2] 29)) = W9 at bN hb hzN ⊢
  have D0 := Lib.hid (D0.out.under hb D0.out.lt)
  have D1 := Lib.hid (D1.out.under hb D1.out.lt)
  have D2 := Lib.hid (D2.out.under hb D2.out.lt)
  have HO := Lib.hid ((HO.out.under hb).mono hb.size)
  have HN := Lib.hid ((HN.out.under hb).mono hb.size)
  have BC := Lib.hid (BC.out.trans (hb.mono BC.out.size))
  have D3 := Lib.hid bN
  clear bN hb hzN
  obtain ⟨m0, m1, m2⟩ := cellsT3 D0.out
  have ml := D0.out.lt
  obtain ⟨k0, k1, k2, k3, k4, k5, k6⟩ := cellsT7 D1.out
  have kl := D1.out.lt
  obtain ⟨o0, o1, o2⟩ := cellsT3 D2.out
  have ol := D2.out.lt
  obtain ⟨n0, n1, n2, n3, n4, n5, n6⟩ := cellsT7 D3.out
  have nl := D3.out.lt
  have hx1 := expand_c ⟨m, pkg, j, env⟩ ia2 ic2 da2 dc2 ea ec W9.heap.size t _ W9 (env_of HO.out ((HE.out.under BC.out).mono BC.out.size) H1.out H3.out HP.out hec ⟨hj1, hj2⟩) HN.out (Nat.le_refl _)
  simp only [mdlCells, tyCells] at hx1
  have HX1 := Lib.hid hx1
  clear hx1
  go_upto_region 10 with (go_at_call 32; refine (HX1.out).mono ?_; rintro e wn ⟨c, x, cs3, rfl, hxi, hxt, hb⟩; have D0 := Lib.hid (D0.out.under hb D0.out.lt); have D1 := Lib.hid (D1.out.under hb D1.out.lt); have D2 := Lib.hid (D2.out.under hb D2.out.lt); have D3 := Lib.hid (D3.out.under hb D3.out.lt); have HO := Lib.hid ((HO.out.under hb).mono hb.size); have HN := Lib.hid ((HN.out.under hb).mono hb.size); have BC := Lib.hid (BC.out.trans (hb.mono BC.out.size)); obtain ⟨na3, nc3, sa3, sc3, f3, rfl, -⟩ := hxt.inv; simp only [tyCells]; have HXI := Lib.hid hxi; have HXT := Lib.hid (hxt.mono (M' := (· < wn.heap.size)) fun b hb => hb.2).toC; clear hxi hxt; clear hb; clear m0 m1 m2 k0 k1 k2 k3 k4 k5 k6 o0 o1 o2 n0 n1 n2 n3 n4 n5 n6 ml kl ol nl; obtain ⟨m0, m1, m2⟩ := cellsT3 D0.out; have ml := D0.out.lt; obtain ⟨k0, k1, k2, k3, k4, k5, k6⟩ := cellsT7 D1.out; have kl := D1.out.lt; obtain ⟨o0, o1, o2⟩ := cellsT3 D2.out; have ol := D2.out.lt; obtain ⟨n0, n1, n2, n3, n4, n5, n6⟩ := cellsT7 D3.out; have nl := D3.out.lt)
  clear m0 m1 m2 k0 k1 k2 k3 k4 k5 k6 o0 o1 o2 n0 n1 n2 n3 n4 n5 n6 ml kl ol nl
  obtain ⟨bN, hb, hzN⟩ := laidN wn #[.int .i64 x.kind, .string x.pkg, .int .i64 x.major, .string x.mod, .string x.name, .slice na3 x.names.length nc3, .slice sa3 x.subs.length sc3] 29
  generalize (wn.alloc (.cells #[.int .i64 x.kind, .string x.pkg, .int .i64 x.major, .string x.mod, .string x.name, .slice na3 x.names.length nc3, .slice sa3 x.subs.length sc3] 29)) = W10 at bN hb hzN ⊢
  have D0 := Lib.hid (D0.out.under hb D0.out.lt)
  have D1 := Lib.hid (D1.out.under hb D1.out.lt)
  have D2 := Lib.hid (D2.out.under hb D2.out.lt)
  have D3 := Lib.hid (D3.out.under hb D3.out.lt)
  have HO := Lib.hid ((HO.out.under hb).mono hb.size)
  have HN := Lib.hid ((HN.out.under hb).mono hb.size)
  have HXT := Lib.hid ((HXT.out.under hb).mono hb.size)
  have BC := Lib.hid (BC.out.trans (hb.mono BC.out.size))
  have D4 := Lib.hid bN
  clear bN hb hzN
  obtain ⟨m0, m1, m2⟩ := cellsT3 D0.out
  have ml := D0.out.lt
  obtain ⟨k0, k1, k2, k3, k4, k5, k6⟩ := cellsT7 D1.out
  have kl := D1.out.lt
  obtain ⟨o0, o1, o2⟩ := cellsT3 D2.out
  have ol := D2.out.lt
  obtain ⟨n0, n1, n2, n3, n4, n5, n6⟩ := cellsT7 D3.out
  have nl := D3.out.lt
  obtain ⟨x0, x1, x2, x3, x4, x5, x6⟩ := cellsT7 D4.out
  have xl := D4.out.lt
  have hfw := H1.out
  simp only [fewM, Bool.and_eq_true, decide_eq_true_eq] at hfw
  have HFW := Lib.hid (And.intro hfw.2.1 hfw.2.2.1)
  clear hfw
  go_upto_region 12 with (first
    | (go_at_call 23; refine (sameM_c m ia2 ic2 da2 dc2 ia ic da dc _ _ HO.out ((HM.out.under BC.out).mono BC.out.size) (Nat.le_refl _) HFW.out.1 HFW.out.2).mono ?_; rintro e wn ⟨rfl, hb⟩; have D0 := Lib.hid (D0.out.under hb D0.out.lt); have D1 := Lib.hid (D1.out.under hb D1.out.lt); have D2 := Lib.hid (D2.out.under hb D2.out.lt); have D3 := Lib.hid (D3.out.under hb D3.out.lt); have D4 := Lib.hid (D4.out.under hb D4.out.lt); have HO := Lib.hid ((HO.out.under hb).mono hb.size); have HN := Lib.hid ((HN.out.under hb).mono hb.size); have HXT := Lib.hid ((HXT.out.under hb).mono hb.size); have BC := Lib.hid (BC.out.trans (hb.mono BC.out.size)); clear hb; clear m0 m1 m2 k0 k1 k2 k3 k4 k5 k6 o0 o1 o2 n0 n1 n2 n3 n4 n5 n6 x0 x1 x2 x3 x4 x5 x6 ml kl ol nl xl; obtain ⟨m0, m1, m2⟩ := cellsT3 D0.out; have ml := D0.out.lt; obtain ⟨k0, k1, k2, k3, k4, k5, k6⟩ := cellsT7 D1.out; have kl := D1.out.lt; obtain ⟨o0, o1, o2⟩ := cellsT3 D2.out; have ol := D2.out.lt; obtain ⟨n0, n1, n2, n3, n4, n5, n6⟩ := cellsT7 D3.out; have nl := D3.out.lt; obtain ⟨x0, x1, x2, x3, x4, x5, x6⟩ := cellsT7 D4.out; have xl := D4.out.lt)
    | (go_at_call 31; refine (same_yes rfl HN.out ((HT.out.under BC.out).mono BC.out.size) (Nat.le_refl _)).mono ?_; rintro e wn ⟨rfl, hb⟩; have D0 := Lib.hid (D0.out.under hb D0.out.lt); have D1 := Lib.hid (D1.out.under hb D1.out.lt); have D2 := Lib.hid (D2.out.under hb D2.out.lt); have D3 := Lib.hid (D3.out.under hb D3.out.lt); have D4 := Lib.hid (D4.out.under hb D4.out.lt); have HO := Lib.hid ((HO.out.under hb).mono hb.size); have HN := Lib.hid ((HN.out.under hb).mono hb.size); have HXT := Lib.hid ((HXT.out.under hb).mono hb.size); have BC := Lib.hid (BC.out.trans (hb.mono BC.out.size)); clear hb; clear m0 m1 m2 k0 k1 k2 k3 k4 k5 k6 o0 o1 o2 n0 n1 n2 n3 n4 n5 n6 x0 x1 x2 x3 x4 x5 x6 ml kl ol nl xl; obtain ⟨m0, m1, m2⟩ := cellsT3 D0.out; have ml := D0.out.lt; obtain ⟨k0, k1, k2, k3, k4, k5, k6⟩ := cellsT7 D1.out; have kl := D1.out.lt; obtain ⟨o0, o1, o2⟩ := cellsT3 D2.out; have ol := D2.out.lt; obtain ⟨n0, n1, n2, n3, n4, n5, n6⟩ := cellsT7 D3.out; have nl := D3.out.lt; obtain ⟨x0, x1, x2, x3, x4, x5, x6⟩ := cellsT7 D4.out; have xl := D4.out.lt))
  have hcodes := HXI.out.codes
  by_cases hc0 : c = 0
  · subst hc0
    clear hcodes
    simp only [codeV_zero]
    have hx2 := (expand_c ⟨m, pkg, j, env⟩ ia ic da dc ea ec _ x _ _ (env_of ((HM.out.under BC.out).mono BC.out.size) ((HE.out.under BC.out).mono BC.out.size) H1.out H3.out HP.out hec ⟨hj1, hj2⟩) HXT.out (Nat.le_refl _)).mono (R' := fun e w' => ∃ na4 nc4 sa4 sc4, e = .returned (.tuple #[.agg (tyCells x na4 nc4 sa4 sc4), .nilIface]) ∧ TyC w' w'.heap.size x (tyCells x na4 nc4 sa4 sc4) ∧ Below wn.heap.size wn w') fun e w' ⟨c, y, cs', h1, h2, h3, h4⟩ => by
      obtain ⟨rfl, rfl⟩ := HXI.out.again h2
      obtain ⟨na4, nc4, sa4, sc4, f4, rfl, -⟩ := h3.inv
      exact ⟨na4, nc4, sa4, sc4, h1, (h3.mono (M' := (· < w'.heap.size)) fun b hb => hb.2).toC, h4⟩
    simp only [mdlCells, tyCells] at hx2
    have HX2 := Lib.hid hx2
    clear hx2
    go_upto_region 15 with (go_at_call 32; refine (HX2.out).mono ?_; rintro e wn ⟨na4, nc4, sa4, sc4, rfl, hxt, hb⟩; have D0 := Lib.hid (D0.out.under hb D0.out.lt); have D1 := Lib.hid (D1.out.under hb D1.out.lt); have D2 := Lib.hid (D2.out.under hb D2.out.lt); have D3 := Lib.hid (D3.out.under hb D3.out.lt); have D4 := Lib.hid (D4.out.under hb D4.out.lt); have HO := Lib.hid ((HO.out.under hb).mono hb.size); have HN := Lib.hid ((HN.out.under hb).mono hb.size); have HXT := Lib.hid ((HXT.out.under hb).mono hb.size); have BC := Lib.hid (BC.out.trans (hb.mono BC.out.size)); have HYT := Lib.hid hxt; clear hxt; clear hb; clear m0 m1 m2 k0 k1 k2 k3 k4 k5 k6 o0 o1 o2 n0 n1 n2 n3 n4 n5 n6 x0 x1 x2 x3 x4 x5 x6 ml kl ol nl xl; obtain ⟨m0, m1, m2⟩ := cellsT3 D0.out; have ml := D0.out.lt; obtain ⟨k0, k1, k2, k3, k4, k5, k6⟩ := cellsT7 D1.out; have kl := D1.out.lt; obtain ⟨o0, o1, o2⟩ := cellsT3 D2.out; have ol := D2.out.lt; obtain ⟨n0, n1, n2, n3, n4, n5, n6⟩ := cellsT7 D3.out; have nl := D3.out.lt; obtain ⟨x0, x1, x2, x3, x4, x5, x6⟩ := cellsT7 D4.out; have xl := D4.out.lt)
    clear m0 m1 m2 k0 k1 k2 k3 k4 k5 k6 o0 o1 o2 n0 n1 n2 n3 n4 n5 n6 x0 x1 x2 x3 x4 x5 x6 ml kl ol nl xl
    obtain ⟨bN, hb, hzN⟩ := laidN wn #[.int .i64 x.kind, .string x.pkg, .int .i64 x.major, .string x.mod, .string x.name, .slice na4 x.names.length nc4, .slice sa4 x.subs.length sc4] 29
    generalize (wn.alloc (.cells #[.int .i64 x.kind, .string x.pkg, .int .i64 x.major, .string x.mod, .string x.name, .slice na4 x.names.length nc4, .slice sa4 x.subs.length sc4] 29)) = W15 at bN hb hzN ⊢
    have D0 := Lib.hid (D0.out.under hb D0.out.lt)
    have D1 := Lib.hid (D1.out.under hb D1.out.lt)
    have D2 := Lib.hid (D2.out.under hb D2.out.lt)
    have D3 := Lib.hid (D3.out.under hb D3.out.lt)
    have D4 := Lib.hid (D4.out.under hb D4.out.lt)
    have HO := Lib.hid ((HO.out.under hb).mono hb.size)
    have HN := Lib.hid ((HN.out.under hb).mono hb.size)
    have HXT := Lib.hid ((HXT.out.under hb).mono hb.size)
    have HYT := Lib.hid ((HYT.out.under hb).mono hb.size)
    have BC := Lib.hid (BC.out.trans (hb.mono BC.out.size))
    have D5 := Lib.hid bN
    clear bN hb hzN
    obtain ⟨m0, m1, m2⟩ := cellsT3 D0.out
    have ml := D0.out.lt
    obtain ⟨k0, k1, k2, k3, k4, k5, k6⟩ := cellsT7 D1.out
    have kl := D1.out.lt
    obtain ⟨o0, o1, o2⟩ := cellsT3 D2.out
    have ol := D2.out.lt
    obtain ⟨n0, n1, n2, n3, n4, n5, n6⟩ := cellsT7 D3.out
    have nl := D3.out.lt
    obtain ⟨x0, x1, x2, x3, x4, x5, x6⟩ := cellsT7 D4.out
    have xl := D4.out.lt
    obtain ⟨y0, y1, y2, y3, y4, y5, y6⟩ := cellsT7 D5.out
    have yl := D5.out.lt
    have hpx := HXI.out.plain
    obtain ⟨q, hq⟩ : ∃ q, PlainB t = q := ⟨_, rfl⟩
    simp only [hq] at HPL
    have HQ := Lib.hid hq
    have HPX := Lib.hid hpx
    clear hq hpx
    cases q
    · go_wp2_with (first
        | (go_at_call 31; refine (same_yes rfl HXT.out HYT.out (Nat.le_refl _)).mono ?_; rintro e wn ⟨rfl, hb⟩; have D0 := Lib.hid (D0.out.under hb D0.out.lt); have D1 := Lib.hid (D1.out.under hb D1.out.lt); have D2 := Lib.hid (D2.out.under hb D2.out.lt); have D3 := Lib.hid (D3.out.under hb D3.out.lt); have D4 := Lib.hid (D4.out.under hb D4.out.lt); have D5 := Lib.hid (D5.out.under hb D5.out.lt); have HO := Lib.hid ((HO.out.under hb).mono hb.size); have HN := Lib.hid ((HN.out.under hb).mono hb.size); have HXT := Lib.hid ((HXT.out.under hb).mono hb.size); have HYT := Lib.hid ((HYT.out.under hb).mono hb.size); have BC := Lib.hid (BC.out.trans (hb.mono BC.out.size)); clear hb; clear m0 m1 m2 k0 k1 k2 k3 k4 k5 k6 o0 o1 o2 n0 n1 n2 n3 n4 n5 n6 x0 x1 x2 x3 x4 x5 x6 y0 y1 y2 y3 y4 y5 y6 ml kl ol nl xl yl; obtain ⟨m0, m1, m2⟩ := cellsT3 D0.out; have ml := D0.out.lt; obtain ⟨k0, k1, k2, k3, k4, k5, k6⟩ := cellsT7 D1.out; have kl := D1.out.lt; obtain ⟨o0, o1, o2⟩ := cellsT3 D2.out; have ol := D2.out.lt; obtain ⟨n0, n1, n2, n3, n4, n5, n6⟩ := cellsT7 D3.out; have nl := D3.out.lt; obtain ⟨x0, x1, x2, x3, x4, x5, x6⟩ := cellsT7 D4.out; have xl := D4.out.lt; obtain ⟨y0, y1, y2, y3, y4, y5, y6⟩ := cellsT7 D5.out; have yl := D5.out.lt; have LSX := True.intro)
        | (have h0 := LPX; go_at_call 36; refine (HPL.out _ BC.out).mono ?_; rintro e wn ⟨rfl, hb⟩; have D0 := Lib.hid (D0.out.under hb D0.out.lt); have D1 := Lib.hid (D1.out.under hb D1.out.lt); have D2 := Lib.hid (D2.out.under hb D2.out.lt); have D3 := Lib.hid (D3.out.under hb D3.out.lt); have D4 := Lib.hid (D4.out.under hb D4.out.lt); have D5 := Lib.hid (D5.out.under hb D5.out.lt); have HO := Lib.hid ((HO.out.under hb).mono hb.size); have HN := Lib.hid ((HN.out.under hb).mono hb.size); have HXT := Lib.hid ((HXT.out.under hb).mono hb.size); have HYT := Lib.hid ((HYT.out.under hb).mono hb.size); have BC := Lib.hid (BC.out.trans (hb.mono BC.out.size)); clear hb; clear m0 m1 m2 k0 k1 k2 k3 k4 k5 k6 o0 o1 o2 n0 n1 n2 n3 n4 n5 n6 x0 x1 x2 x3 x4 x5 x6 y0 y1 y2 y3 y4 y5 y6 ml kl ol nl xl yl; obtain ⟨m0, m1, m2⟩ := cellsT3 D0.out; have ml := D0.out.lt; obtain ⟨k0, k1, k2, k3, k4, k5, k6⟩ := cellsT7 D1.out; have kl := D1.out.lt; obtain ⟨o0, o1, o2⟩ := cellsT3 D2.out; have ol := D2.out.lt; obtain ⟨n0, n1, n2, n3, n4, n5, n6⟩ := cellsT7 D3.out; have nl := D3.out.lt; obtain ⟨x0, x1, x2, x3, x4, x5, x6⟩ := cellsT7 D4.out; have xl := D4.out.lt; obtain ⟨y0, y1, y2, y3, y4, y5, y6⟩ := cellsT7 D5.out; have yl := D5.out.lt)
        | (go_at_call 36; refine (plain_yes HPX.out HXT.out (Nat.le_refl _)).mono ?_; rintro e wn ⟨rfl, hb⟩; have D0 := Lib.hid (D0.out.under hb D0.out.lt); have D1 := Lib.hid (D1.out.under hb D1.out.lt); have D2 := Lib.hid (D2.out.under hb D2.out.lt); have D3 := Lib.hid (D3.out.under hb D3.out.lt); have D4 := Lib.hid (D4.out.under hb D4.out.lt); have D5 := Lib.hid (D5.out.under hb D5.out.lt); have HO := Lib.hid ((HO.out.under hb).mono hb.size); have HN := Lib.hid ((HN.out.under hb).mono hb.size); have HXT := Lib.hid ((HXT.out.under hb).mono hb.size); have HYT := Lib.hid ((HYT.out.under hb).mono hb.size); have BC := Lib.hid (BC.out.trans (hb.mono BC.out.size)); clear hb; clear m0 m1 m2 k0 k1 k2 k3 k4 k5 k6 o0 o1 o2 n0 n1 n2 n3 n4 n5 n6 x0 x1 x2 x3 x4 x5 x6 y0 y1 y2 y3 y4 y5 y6 ml kl ol nl xl yl; obtain ⟨m0, m1, m2⟩ := cellsT3 D0.out; have ml := D0.out.lt; obtain ⟨k0, k1, k2, k3, k4, k5, k6⟩ := cellsT7 D1.out; have kl := D1.out.lt; obtain ⟨o0, o1, o2⟩ := cellsT3 D2.out; have ol := D2.out.lt; obtain ⟨n0, n1, n2, n3, n4, n5, n6⟩ := cellsT7 D3.out; have nl := D3.out.lt; obtain ⟨x0, x1, x2, x3, x4, x5, x6⟩ := cellsT7 D4.out; have xl := D4.out.lt; obtain ⟨y0, y1, y2, y3, y4, y5, y6⟩ := cellsT7 D5.out; have yl := D5.out.lt; have LPX := True.intro))
      go_ret
      exact ⟨rfl, BC.out⟩
    · have hxt : x = t := by
        rcases HXI.out.self HQ.out with h | ⟨-, h⟩
        · cases h
        · exact h
      have HXE := Lib.hid hxt
      clear hxt
      go_wp2_with (first
        | (have h0 := LSX; go_at_call 31; refine (same_yes HXE.out HXT.out ((HT.out.under BC.out).mono BC.out.size) (Nat.le_refl _)).mono ?_; rintro e wn ⟨rfl, hb⟩; have D0 := Lib.hid (D0.out.under hb D0.out.lt); have D1 := Lib.hid (D1.out.under hb D1.out.lt); have D2 := Lib.hid (D2.out.under hb D2.out.lt); have D3 := Lib.hid (D3.out.under hb D3.out.lt); have D4 := Lib.hid (D4.out.under hb D4.out.lt); have D5 := Lib.hid (D5.out.under hb D5.out.lt); have HO := Lib.hid ((HO.out.under hb).mono hb.size); have HN := Lib.hid ((HN.out.under hb).mono hb.size); have HXT := Lib.hid ((HXT.out.under hb).mono hb.size); have HYT := Lib.hid ((HYT.out.under hb).mono hb.size); have BC := Lib.hid (BC.out.trans (hb.mono BC.out.size)); clear hb; clear m0 m1 m2 k0 k1 k2 k3 k4 k5 k6 o0 o1 o2 n0 n1 n2 n3 n4 n5 n6 x0 x1 x2 x3 x4 x5 x6 y0 y1 y2 y3 y4 y5 y6 ml kl ol nl xl yl; obtain ⟨m0, m1, m2⟩ := cellsT3 D0.out; have ml := D0.out.lt; obtain ⟨k0, k1, k2, k3, k4, k5, k6⟩ := cellsT7 D1.out; have kl := D1.out.lt; obtain ⟨o0, o1, o2⟩ := cellsT3 D2.out; have ol := D2.out.lt; obtain ⟨n0, n1, n2, n3, n4, n5, n6⟩ := cellsT7 D3.out; have nl := D3.out.lt; obtain ⟨x0, x1, x2, x3, x4, x5, x6⟩ := cellsT7 D4.out; have xl := D4.out.lt; obtain ⟨y0, y1, y2, y3, y4, y5, y6⟩ := cellsT7 D5.out; have yl := D5.out.lt)
        | (go_at_call 31; refine (same_yes rfl HXT.out HYT.out (Nat.le_refl _)).mono ?_; rintro e wn ⟨rfl, hb⟩; have D0 := Lib.hid (D0.out.under hb D0.out.lt); have D1 := Lib.hid (D1.out.under hb D1.out.lt); have D2 := Lib.hid (D2.out.under hb D2.out.lt); have D3 := Lib.hid (D3.out.under hb D3.out.lt); have D4 := Lib.hid (D4.out.under hb D4.out.lt); have D5 := Lib.hid (D5.out.under hb D5.out.lt); have HO := Lib.hid ((HO.out.under hb).mono hb.size); have HN := Lib.hid ((HN.out.under hb).mono hb.size); have HXT := Lib.hid ((HXT.out.under hb).mono hb.size); have HYT := Lib.hid ((HYT.out.under hb).mono hb.size); have BC := Lib.hid (BC.out.trans (hb.mono BC.out.size)); clear hb; clear m0 m1 m2 k0 k1 k2 k3 k4 k5 k6 o0 o1 o2 n0 n1 n2 n3 n4 n5 n6 x0 x1 x2 x3 x4 x5 x6 y0 y1 y2 y3 y4 y5 y6 ml kl ol nl xl yl; obtain ⟨m0, m1, m2⟩ := cellsT3 D0.out; have ml := D0.out.lt; obtain ⟨k0, k1, k2, k3, k4, k5, k6⟩ := cellsT7 D1.out; have kl := D1.out.lt; obtain ⟨o0, o1, o2⟩ := cellsT3 D2.out; have ol := D2.out.lt; obtain ⟨n0, n1, n2, n3, n4, n5, n6⟩ := cellsT7 D3.out; have nl := D3.out.lt; obtain ⟨x0, x1, x2, x3, x4, x5, x6⟩ := cellsT7 D4.out; have xl := D4.out.lt; obtain ⟨y0, y1, y2, y3, y4, y5, y6⟩ := cellsT7 D5.out; have yl := D5.out.lt; have LSX := True.intro)
        | (have h0 := LPX; go_at_call 36; refine (HPL.out _ BC.out).mono ?_; rintro e wn ⟨rfl, hb⟩; have D0 := Lib.hid (D0.out.under hb D0.out.lt); have D1 := Lib.hid (D1.out.under hb D1.out.lt); have D2 := Lib.hid (D2.out.under hb D2.out.lt); have D3 := Lib.hid (D3.out.under hb D3.out.lt); have D4 := Lib.hid (D4.out.under hb D4.out.lt); have D5 := Lib.hid (D5.out.under hb D5.out.lt); have HO := Lib.hid ((HO.out.under hb).mono hb.size); have HN := Lib.hid ((HN.out.under hb).mono hb.size); have HXT := Lib.hid ((HXT.out.under hb).mono hb.size); have HYT := Lib.hid ((HYT.out.under hb).mono hb.size); have BC := Lib.hid (BC.out.trans (hb.mono BC.out.size)); clear hb; clear m0 m1 m2 k0 k1 k2 k3 k4 k5 k6 o0 o1 o2 n0 n1 n2 n3 n4 n5 n6 x0 x1 x2 x3 x4 x5 x6 y0 y1 y2 y3 y4 y5 y6 ml kl ol nl xl yl; obtain ⟨m0, m1, m2⟩ := cellsT3 D0.out; have ml := D0.out.lt; obtain ⟨k0, k1, k2, k3, k4, k5, k6⟩ := cellsT7 D1.out; have kl := D1.out.lt; obtain ⟨o0, o1, o2⟩ := cellsT3 D2.out; have ol := D2.out.lt; obtain ⟨n0, n1, n2, n3, n4, n5, n6⟩ := cellsT7 D3.out; have nl := D3.out.lt; obtain ⟨x0, x1, x2, x3, x4, x5, x6⟩ := cellsT7 D4.out; have xl := D4.out.lt; obtain ⟨y0, y1, y2, y3, y4, y5, y6⟩ := cellsT7 D5.out; have yl := D5.out.lt)
        | (go_at_call 36; refine (plain_yes HPX.out HXT.out (Nat.le_refl _)).mono ?_; rintro e wn ⟨rfl, hb⟩; have D0 := Lib.hid (D0.out.under hb D0.out.lt); have D1 := Lib.hid (D1.out.under hb D1.out.lt); have D2 := Lib.hid (D2.out.under hb D2.out.lt); have D3 := Lib.hid (D3.out.under hb D3.out.lt); have D4 := Lib.hid (D4.out.under hb D4.out.lt); have D5 := Lib.hid (D5.out.under hb D5.out.lt); have HO := Lib.hid ((HO.out.under hb).mono hb.size); have HN := Lib.hid ((HN.out.under hb).mono hb.size); have HXT := Lib.hid ((HXT.out.under hb).mono hb.size); have HYT := Lib.hid ((HYT.out.under hb).mono hb.size); have BC := Lib.hid (BC.out.trans (hb.mono BC.out.size)); clear hb; clear m0 m1 m2 k0 k1 k2 k3 k4 k5 k6 o0 o1 o2 n0 n1 n2 n3 n4 n5 n6 x0 x1 x2 x3 x4 x5 x6 y0 y1 y2 y3 y4 y5 y6 ml kl ol nl xl yl; obtain ⟨m0, m1, m2⟩ := cellsT3 D0.out; have ml := D0.out.lt; obtain ⟨k0, k1, k2, k3, k4, k5, k6⟩ := cellsT7 D1.out; have kl := D1.out.lt; obtain ⟨o0, o1, o2⟩ := cellsT3 D2.out; have ol := D2.out.lt; obtain ⟨n0, n1, n2, n3, n4, n5, n6⟩ := cellsT7 D3.out; have nl := D3.out.lt; obtain ⟨x0, x1, x2, x3, x4, x5, x6⟩ := cellsT7 D4.out; have xl := D4.out.lt; obtain ⟨y0, y1, y2, y3, y4, y5, y6⟩ := cellsT7 D5.out; have yl := D5.out.lt; have LPX := True.intro))
      go_ret
      exact ⟨rfl, BC.out⟩
  · have hun : c ≠ 1 → PlainB t = false := fun h => HXI.out.unplain hc0 h
    have HUN := Lib.hid hun
    clear hun
    simp only [codeV_ne hc0]
    rcases hcodes with rfl | rfl | rfl | rfl | rfl
    · exact absurd rfl hc0
    · clear hc0
      have l1 := codeEq 1 (by decide)
      have e1 : ((1 : Int) == 1) = true := by decide
      go_wp2_with fail
      go_ret
      exact ⟨rfl, BC.out⟩
    all_goals
      have hpt := HUN.out (by decide)
      simp only [hpt] at HPL
      clear hc0 hpt HUN
      have l1 := codeEq 3 (by decide)
      have l2 := codeEq 4 (by decide)
      have l3 := codeEq 9 (by decide)
      have e1 : ((3 : Int) == 1) = false := by decide
      have e2 : ((4 : Int) == 1) = false := by decide
      have e3 : ((9 : Int) == 1) = false := by decide
      go_wp2_with (go_at_call 36; refine (HPL.out _ BC.out).mono ?_; rintro e wn ⟨rfl, hb⟩; have D0 := Lib.hid (D0.out.under hb D0.out.lt); have D1 := Lib.hid (D1.out.under hb D1.out.lt); have D2 := Lib.hid (D2.out.under hb D2.out.lt); have D3 := Lib.hid (D3.out.under hb D3.out.lt); have D4 := Lib.hid (D4.out.under hb D4.out.lt); have HO := Lib.hid ((HO.out.under hb).mono hb.size); have HN := Lib.hid ((HN.out.under hb).mono hb.size); have HXT := Lib.hid ((HXT.out.under hb).mono hb.size); have BC := Lib.hid (BC.out.trans (hb.mono BC.out.size)); clear hb; clear m0 m1 m2 k0 k1 k2 k3 k4 k5 k6 o0 o1 o2 n0 n1 n2 n3 n4 n5 n6 x0 x1 x2 x3 x4 x5 x6 ml kl ol nl xl; obtain ⟨m0, m1, m2⟩ := cellsT3 D0.out; have ml := D0.out.lt; obtain ⟨k0, k1, k2, k3, k4, k5, k6⟩ := cellsT7 D1.out; have kl := D1.out.lt; obtain ⟨o0, o1, o2⟩ := cellsT3 D2.out; have ol := D2.out.lt; obtain ⟨n0, n1, n2, n3, n4, n5, n6⟩ := cellsT7 D3.out; have nl := D3.out.lt; obtain ⟨x0, x1, x2, x3, x4, x5, x6⟩ := cellsT7 D4.out; have xl := D4.out.lt)
      go_ret
      exact ⟨rfl, BC.out⟩
end Go.Proofs.YtjeldfipipkfiaaGreatDoor
