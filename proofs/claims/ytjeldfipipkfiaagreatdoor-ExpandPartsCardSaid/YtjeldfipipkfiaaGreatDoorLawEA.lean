/- The statement ExpandParts: the law's walk. -/
import Derived.Test.YtjeldfipipkfiaaGreatDoorLawEP
import Derived.Test.YtjeldfipipkfiaaGreatDoorGErr
namespace Go.Proofs.YtjeldfipipkfiaaGreatDoor
open Go.RowKit
set_option linter.unusedSimpArgs false
set_option linter.unusedVariables false
theorem acc_alloc {w w' : World} {o : Obj} (h : Below (w.alloc o).heap.size (w.alloc o) w') : Below w.heap.size w w' := ((Below.refl w.heap.size w).alloc (Nat.le_refl _) o).trans (h.mono (by simp))
theorem code_any (c : Int) (h : c = 0 ∨ c = 1 ∨ c = 3 ∨ c = 4 ∨ c = 9) (w : World) : Calls Tryz.prog 34 #[codeV c] w fun e w' => e = .returned (.int .i64 c) ∧ Below w.heap.size w w' := by
  by_cases h0 : c = 0
  · subst h0
    exact (codeNil_c w).mono fun e w' ⟨h1, h2⟩ => ⟨h1, h2 ▸ Below.refl _ _⟩
  · rw [codeV_ne h0]
    exact (codeN_c c (by omega) (by omega) w).mono fun e w' ⟨h1, h2⟩ => ⟨h1, h2 ▸ Below.refl _ _⟩
theorem list_at {w : World} {B g : Nat} {T : TypeId} {t : Ty} {cs : Array Value} (ht : TyC w B t cs) (h : Blk w g cs T) (hg : g < B) : TyC w B (listT t) #[.int .i64 4, .string { data := #[] }, .int .i64 0, .string { data := #[] }, .string { data := #[] }, .slice none 0 0, .slice (some ⟨g, 0, none⟩) 1 1] := by
  refine .mk (listT t) none 0 (some ⟨g, 0, none⟩) 1 (fun _ => cs) { kind := (by decide : (-9223372036854775808 : Int) ≤ 4 ∧ (4 : Int) ≤ 9223372036854775807), major := (by decide : (-9223372036854775808 : Int) ≤ 0 ∧ (0 : Int) ≤ 9223372036854775807), pkg := Nat.zero_le _, mod := Nat.zero_le _, name := Nat.zero_le _, names := Nat.zero_le _, each := (fun s hs => by cases hs), subs := (by decide : (1 : Nat) ≤ maxLen) } (.inl rfl) (.inr ⟨g, 0, rfl, hg, fun i hi j hj => ?_⟩) (Nat.le_refl _) (Nat.le_refl _) (fun i hi => ?_)
  · have : i = 0 := by have : i < 1 := hi; omega
    subst this
    simpa using h.cell j
  · have : i = 0 := by have : i < 1 := hi; omega
    subst this
    exact ht
theorem loc_at (w : World) (B : Nat) (s : ByteArray) (h : s.size ≤ maxLen) : TyC w B (locT s) #[.int .i64 8, .string { data := #[] }, .int .i64 0, .string { data := #[] }, .string s, .slice none 0 0, .slice none 0 0] :=
  .mk (locT s) none 0 none 0 (fun _ => #[]) { kind := (by decide : (-9223372036854775808 : Int) ≤ 8 ∧ (8 : Int) ≤ 9223372036854775807), major := (by decide : (-9223372036854775808 : Int) ≤ 0 ∧ (0 : Int) ≤ 9223372036854775807), pkg := Nat.zero_le _, mod := Nat.zero_le _, name := h, names := Nat.zero_le _, each := (fun s hs => by cases hs), subs := Nat.zero_le _ } (.inl rfl) (.inl rfl) (Nat.le_refl _) (Nat.le_refl _) (fun i hi => by cases hi)
theorem err_kinds {w : World} {v : Value} {r : Option (Int × Option Nat)} (h : ErrAt w v r) : (r = none ∧ v = .nilIface) ∨ (r ≠ none ∧ ∃ T p, v = .iface T p) := by
  match r, h with
  | none, h => exact .inl ⟨rfl, h⟩
  | some (c, none), h => exact .inr ⟨by simp, _, _, h⟩
  | some (c, some i), h => obtain ⟨b, h, -⟩ := h; exact .inr ⟨by simp, _, _, h⟩
set_option maxRecDepth 100000 in
set_option maxHeartbeats 40000000 in
theorem expandParts_c (m : Mdl) (ia : Option Addr) (ic : Nat) (da : Option Addr) (dc : Nat) (pkg : ByteArray) (j : Int) (env : List If) (ea : Option Addr) (ec : Nat) (t : Ty) (cs : Array Value) (at_ : Int) (w : World) (hm : MdlC w w.heap.size m ia ic da dc) (hp : pkg.size ≤ maxLen) (hj1 : -9223372036854775808 ≤ j) (hj2 : j ≤ 9223372036854775807)
    (he : IfsAt w w.heap.size ea env) (hec : env.length ≤ ec) (hel : env.length ≤ maxLen) (ht : TyC w w.heap.size t cs) (ha1 : -9223372036854775808 ≤ at_) (ha2 : at_ ≤ 9223372036854775807) :
    Calls Tryz.prog 8 #[.agg (mdlCells m ia ic da dc), .string pkg, .int .i64 j, .slice ea env.length ec, .agg cs, .int .i64 at_] w fun e w' => e = .returned (.bool true) ∧ Below w.heap.size w w' := by
  obtain ⟨na, nc, sa, sc, f0, rfl, -⟩ := ht.inv
  have HM := Lib.hid hm
  have HE := Lib.hid he
  have HT := Lib.hid ht
  have hfe := fun W (hb : Below w.heap.size w W) => fewM_c m ia ic da dc w.heap.size W (hm.under hb) hb.size
  have hft := fun W (hb : Below w.heap.size w W) => Few_c t _ w.heap.size W (ht.under hb) hb.size
  have hfi := fun W (hb : Below w.heap.size w W) => FewI_c env ea ec w.heap.size W (he.under hb) hb.size hel
  have hck := fun W (hb : Below w.heap.size w W) => check_c m ia ic da dc w.heap.size W (hm.under hb) hb.size
  simp only [mdlCells, tyCells] at hfe hft hck ⊢
  have HFE := Lib.hid hfe
  have HFT := Lib.hid hft
  have HFI := Lib.hid hfi
  have HCK := Lib.hid hck
  obtain ⟨q1, h1⟩ : ∃ q, fewM m = q := ⟨_, rfl⟩
  obtain ⟨q2, h2⟩ : ∃ q, FewB t = q := ⟨_, rfl⟩
  obtain ⟨q3, h3⟩ : ∃ q, FewI env = q := ⟨_, rfl⟩
  simp only [h1] at HFE
  simp only [h2] at HFT
  simp only [h3] at HFI
  have H1 := Lib.hid h1
  have H2 := Lib.hid h2
  have H3 := Lib.hid h3
  have HP := Lib.hid hp
  clear hfe hft hfi hck hm he ht h1 h2 h3 hp hel
  go_enter Tryz.func8, Tryz.ntmps8
  go_upto_region 1 with fail
  obtain ⟨d0, d1, hz, hb⟩ := twoE w #[.string m.name, .slice ia m.imps.length ic, .slice da m.decls.length dc] #[.int .i64 t.kind, .string t.pkg, .int .i64 t.major, .string t.mod, .string t.name, .slice na t.names.length nc, .slice sa t.subs.length sc] 25 29
  generalize ((w.alloc (.cells #[.string m.name, .slice ia m.imps.length ic, .slice da m.decls.length dc] 25)).alloc (.cells #[.int .i64 t.kind, .string t.pkg, .int .i64 t.major, .string t.mod, .string t.name, .slice na t.names.length nc, .slice sa t.subs.length sc] 29)) = W at hb d0 d1 hz ⊢
  have D0 := Lib.hid d0
  have D1 := Lib.hid d1
  have BC := Lib.hid hb
  clear d0 d1 hb
  obtain ⟨m0, m1, m2⟩ := cellsT3 D0.out
  have ml := D0.out.lt
  obtain ⟨k0, k1, k2, k3, k4, k5, k6⟩ := cellsT7 D1.out
  have kl := D1.out.lt
  go_upto_region 5 with (first
    | (go_at_call 25; refine (up8_c _).mono ?_; rintro e wn ⟨rfl, hb⟩; have D0 := Lib.hid (D0.out.under hb D0.out.lt); have D1 := Lib.hid (D1.out.under hb D1.out.lt); have BC := Lib.hid (BC.out.trans (hb.mono BC.out.size)); clear hb; clear m0 m1 m2 k0 k1 k2 k3 k4 k5 k6 ml kl; obtain ⟨m0, m1, m2⟩ := cellsT3 D0.out; have ml := D0.out.lt; obtain ⟨k0, k1, k2, k3, k4, k5, k6⟩ := cellsT7 D1.out; have kl := D1.out.lt)
    | (go_at_call 13; refine (HFE.out _ BC.out).mono ?_; rintro e wn ⟨rfl, hb⟩; have D0 := Lib.hid (D0.out.under hb D0.out.lt); have D1 := Lib.hid (D1.out.under hb D1.out.lt); have BC := Lib.hid (BC.out.trans (hb.mono BC.out.size)); clear hb; clear m0 m1 m2 k0 k1 k2 k3 k4 k5 k6 ml kl; obtain ⟨m0, m1, m2⟩ := cellsT3 D0.out; have ml := D0.out.lt; obtain ⟨k0, k1, k2, k3, k4, k5, k6⟩ := cellsT7 D1.out; have kl := D1.out.lt)
    | (go_at_call 14; refine (HFT.out _ BC.out).mono ?_; rintro e wn ⟨rfl, hb⟩; have D0 := Lib.hid (D0.out.under hb D0.out.lt); have D1 := Lib.hid (D1.out.under hb D1.out.lt); have BC := Lib.hid (BC.out.trans (hb.mono BC.out.size)); clear hb; clear m0 m1 m2 k0 k1 k2 k3 k4 k5 k6 ml kl; obtain ⟨m0, m1, m2⟩ := cellsT3 D0.out; have ml := D0.out.lt; obtain ⟨k0, k1, k2, k3, k4, k5, k6⟩ := cellsT7 D1.out; have kl := D1.out.lt)
    | (go_at_call 26; refine (HFI.out _ BC.out).mono ?_; rintro e wn ⟨rfl, hb⟩; have D0 := Lib.hid (D0.out.under hb D0.out.lt); have D1 := Lib.hid (D1.out.under hb D1.out.lt); have BC := Lib.hid (BC.out.trans (hb.mono BC.out.size)); clear hb; clear m0 m1 m2 k0 k1 k2 k3 k4 k5 k6 ml kl; obtain ⟨m0, m1, m2⟩ := cellsT3 D0.out; have ml := D0.out.lt; obtain ⟨k0, k1, k2, k3, k4, k5, k6⟩ := cellsT7 D1.out; have kl := D1.out.lt))
  cases q1
  · go_wp2_with fail
    go_ret
    exact ⟨rfl, BC.out⟩
  cases q2
  · go_wp2_with fail
    go_ret
    exact ⟨rfl, BC.out⟩
  cases q3
  · go_wp2_with fail
    go_ret
    exact ⟨rfl, BC.out⟩
  by_cases h5 : 500 < (pkg.size : Int)
  · go_wp2_with fail
    go_ret
    exact ⟨rfl, BC.out⟩
  have hfw := H1.out
  simp only [fewM, Bool.and_eq_true, decide_eq_true_eq] at hfw
  have hdl := hfw.2.2.1
  clear hfw
  go_upto_region 8 with (go_at_call 15; refine (HCK.out _ BC.out).mono ?_; rintro e wn ⟨ve, rfl, hev, hb⟩; have D0 := Lib.hid (D0.out.under hb D0.out.lt); have D1 := Lib.hid (D1.out.under hb D1.out.lt); have BC := Lib.hid (BC.out.trans (hb.mono BC.out.size)); have HEV := Lib.hid hev; clear hev; clear hb; clear m0 m1 m2 k0 k1 k2 k3 k4 k5 k6 ml kl; obtain ⟨m0, m1, m2⟩ := cellsT3 D0.out; have ml := D0.out.lt; obtain ⟨k0, k1, k2, k3, k4, k5, k6⟩ := cellsT7 D1.out; have kl := D1.out.lt)
  go_upto_region 9 with (go_at_call 32; refine (expand_c ⟨m, pkg, j, env⟩ ia ic da dc ea ec _ t _ _ (env_of ((HM.out.under BC.out).mono BC.out.size) ((HE.out.under BC.out).mono BC.out.size) H1.out H3.out HP.out hec ⟨hj1, hj2⟩) ((HT.out.under BC.out).mono BC.out.size) (Nat.le_refl _)).mono ?_; rintro e wn ⟨c1, x, cs3, rfl, hxi, hxt, hb⟩; have D0 := Lib.hid (D0.out.under hb D0.out.lt); have D1 := Lib.hid (D1.out.under hb D1.out.lt); have BC := Lib.hid (BC.out.trans (hb.mono BC.out.size)); obtain ⟨na3, nc3, sa3, sc3, f3, rfl, -⟩ := hxt.inv; simp only [tyCells]; have HXI := Lib.hid hxi; have HXT := Lib.hid (hxt.mono (M' := (· < wn.heap.size)) fun b hb => hb.2).toC; clear hxi hxt; clear hb; clear m0 m1 m2 k0 k1 k2 k3 k4 k5 k6 ml kl; obtain ⟨m0, m1, m2⟩ := cellsT3 D0.out; have ml := D0.out.lt; obtain ⟨k0, k1, k2, k3, k4, k5, k6⟩ := cellsT7 D1.out; have kl := D1.out.lt)
  clear m0 m1 m2 k0 k1 k2 k3 k4 k5 k6 ml kl
  obtain ⟨bN, hb, hzN⟩ := laidN wn #[.int .i64 x.kind, .string x.pkg, .int .i64 x.major, .string x.mod, .string x.name, .slice na3 x.names.length nc3, .slice sa3 x.subs.length sc3] 29
  generalize (wn.alloc (.cells #[.int .i64 x.kind, .string x.pkg, .int .i64 x.major, .string x.mod, .string x.name, .slice na3 x.names.length nc3, .slice sa3 x.subs.length sc3] 29)) = W9 at bN hb hzN ⊢
  have D0 := Lib.hid (D0.out.under hb D0.out.lt)
  have D1 := Lib.hid (D1.out.under hb D1.out.lt)
  have HXT := Lib.hid ((HXT.out.under hb).mono hb.size)
  have BC := Lib.hid (BC.out.trans (hb.mono BC.out.size))
  have D2 := Lib.hid bN
  clear bN hb hzN
  obtain ⟨m0, m1, m2⟩ := cellsT3 D0.out
  have ml := D0.out.lt
  obtain ⟨k0, k1, k2, k3, k4, k5, k6⟩ := cellsT7 D1.out
  have kl := D1.out.lt
  obtain ⟨x0, x1, x2, x3, x4, x5, x6⟩ := cellsT7 D2.out
  have xl := D2.out.lt
  have hxl := fun W2 g (hb : Below W9.heap.size W9 W2) (hg : Blk W2 g #[.int .i64 t.kind, .string t.pkg, .int .i64 t.major, .string t.mod, .string t.name, .slice na t.names.length nc, .slice sa t.subs.length sc] 29) => expand_c ⟨m, pkg, j, env⟩ ia ic da dc ea ec W2.heap.size (listT t) _ W2 (env_of ((HM.out.under (BC.out.trans (hb.mono BC.out.size))).mono (Nat.le_trans BC.out.size hb.size)) ((HE.out.under (BC.out.trans (hb.mono BC.out.size))).mono (Nat.le_trans BC.out.size hb.size)) H1.out H3.out HP.out hec ⟨hj1, hj2⟩) (list_at ((HT.out.under (BC.out.trans (hb.mono BC.out.size))).mono (Nat.le_trans BC.out.size hb.size)) hg hg.lt) (Nat.le_refl _)
  simp only [mdlCells] at hxl
  have HXL := Lib.hid hxl
  clear hxl
  go_upto_region 10 with (go_at_call 32; refine (HXL.out _ _ ((Below.refl _ _).alloc (Nat.le_refl _) _) (Blk.new _ _ _)).mono ?_; rintro e wn ⟨c2, y, cs4, rfl, hxi, hxt, hb⟩; have hb := acc_alloc hb; have D0 := Lib.hid (D0.out.under hb D0.out.lt); have D1 := Lib.hid (D1.out.under hb D1.out.lt); have D2 := Lib.hid (D2.out.under hb D2.out.lt); have HXT := Lib.hid ((HXT.out.under hb).mono hb.size); have BC := Lib.hid (BC.out.trans (hb.mono BC.out.size)); obtain ⟨na4, nc4, sa4, sc4, f4, rfl, -⟩ := hxt.inv; simp only [tyCells]; have HYI := Lib.hid hxi; have HYT := Lib.hid (hxt.mono (M' := (· < wn.heap.size)) fun b hb => hb.2).toC; clear hxi hxt; clear hb; clear m0 m1 m2 k0 k1 k2 k3 k4 k5 k6 x0 x1 x2 x3 x4 x5 x6 ml kl xl; obtain ⟨m0, m1, m2⟩ := cellsT3 D0.out; have ml := D0.out.lt; obtain ⟨k0, k1, k2, k3, k4, k5, k6⟩ := cellsT7 D1.out; have kl := D1.out.lt; obtain ⟨x0, x1, x2, x3, x4, x5, x6⟩ := cellsT7 D2.out; have xl := D2.out.lt)
  clear m0 m1 m2 k0 k1 k2 k3 k4 k5 k6 x0 x1 x2 x3 x4 x5 x6 ml kl xl
  obtain ⟨bN, hb, hzN⟩ := laidN wn #[.int .i64 y.kind, .string y.pkg, .int .i64 y.major, .string y.mod, .string y.name, .slice na4 y.names.length nc4, .slice sa4 y.subs.length sc4] 29
  generalize (wn.alloc (.cells #[.int .i64 y.kind, .string y.pkg, .int .i64 y.major, .string y.mod, .string y.name, .slice na4 y.names.length nc4, .slice sa4 y.subs.length sc4] 29)) = W10 at bN hb hzN ⊢
  have D0 := Lib.hid (D0.out.under hb D0.out.lt)
  have D1 := Lib.hid (D1.out.under hb D1.out.lt)
  have D2 := Lib.hid (D2.out.under hb D2.out.lt)
  have HXT := Lib.hid ((HXT.out.under hb).mono hb.size)
  have HYT := Lib.hid ((HYT.out.under hb).mono hb.size)
  have BC := Lib.hid (BC.out.trans (hb.mono BC.out.size))
  have D3 := Lib.hid bN
  clear bN hb hzN
  obtain ⟨m0, m1, m2⟩ := cellsT3 D0.out
  have ml := D0.out.lt
  obtain ⟨k0, k1, k2, k3, k4, k5, k6⟩ := cellsT7 D1.out
  have kl := D1.out.lt
  obtain ⟨x0, x1, x2, x3, x4, x5, x6⟩ := cellsT7 D2.out
  have xl := D2.out.lt
  obtain ⟨y0, y1, y2, y3, y4, y5, y6⟩ := cellsT7 D3.out
  have yl := D3.out.lt
  by_cases hc2 : c2 = 0
  · subst hc2
    obtain ⟨x', hx', rfl⟩ := HYI.out.list
    obtain ⟨rfl, rfl⟩ := HXI.out.uniq hx'
    simp only [codeV_zero]
    have hsl := fun W2 g (hb : Below W10.heap.size W10 W2) (hg : Blk W2 g #[.int .i64 x.kind, .string x.pkg, .int .i64 x.major, .string x.mod, .string x.name, .slice na3 x.names.length nc3, .slice sa3 x.subs.length sc3] 29) => same_yes (a := listT x) (b := listT x) rfl ((HYT.out.under hb).mono hb.size) (list_at ((HXT.out.under hb).mono hb.size) hg hg.lt) (Nat.le_refl _)
    have HSL := Lib.hid hsl
    clear hsl hx'
    go_upto_region 12 with (go_at_call 31; refine (HSL.out _ _ ((Below.refl _ _).alloc (Nat.le_refl _) _) (Blk.new _ _ _)).mono ?_; rintro e wn ⟨rfl, hb⟩; have hb := acc_alloc hb; have D0 := Lib.hid (D0.out.under hb D0.out.lt); have D1 := Lib.hid (D1.out.under hb D1.out.lt); have D2 := Lib.hid (D2.out.under hb D2.out.lt); have D3 := Lib.hid (D3.out.under hb D3.out.lt); have HXT := Lib.hid ((HXT.out.under hb).mono hb.size); have HYT := Lib.hid ((HYT.out.under hb).mono hb.size); have BC := Lib.hid (BC.out.trans (hb.mono BC.out.size)); clear hb; clear m0 m1 m2 k0 k1 k2 k3 k4 k5 k6 x0 x1 x2 x3 x4 x5 x6 y0 y1 y2 y3 y4 y5 y6 ml kl xl yl; obtain ⟨m0, m1, m2⟩ := cellsT3 D0.out; have ml := D0.out.lt; obtain ⟨k0, k1, k2, k3, k4, k5, k6⟩ := cellsT7 D1.out; have kl := D1.out.lt; obtain ⟨x0, x1, x2, x3, x4, x5, x6⟩ := cellsT7 D2.out; have xl := D2.out.lt; obtain ⟨y0, y1, y2, y3, y4, y5, y6⟩ := cellsT7 D3.out; have yl := D3.out.lt)
    rcases err_kinds HEV.out with ⟨hn, rfl⟩ | ⟨hn, T, p, rfl⟩
    · have HN := Lib.hid hn
      clear hn
      by_cases h0 : m.decls.length = 0
      · have h0b : ((m.decls.length : Int) == 0) = true := by rw [h0]; rfl
        clear h0
        go_wp2_with fail
        go_ret
        exact ⟨rfl, BC.out⟩
      have h0b : ((m.decls.length : Int) == 0) = false := by simpa using h0
      have hn0 : (0 : Int) < (m.decls.length : Int) := by omega
      have hnne : (m.decls.length : Int) ≠ 0 := by omega
      go_upto_if 104 with fail
      go_cut [5] (fun v wx => ∃ a : Int, v = .int .i64 a ∧ 0 ≤ a ∧ a ≤ 9223372036854775807 ∧ wx = wn)
      case first =>
        by_cases hneg : at_ < 0
        · go_wp2_with fail
          go_meet
          exact ⟨-(at_ + 1), by go_num, by omega, by omega, rfl⟩
        · go_wp2_with fail
          go_meet
          exact ⟨at_, rfl, by omega, by omega, rfl⟩
      case rest =>
        obtain ⟨a, rfl, ha1, ha2, hww⟩ := hcut
        obtain rfl := hww.symm
        clear hww
        have hk1 : 0 ≤ a % (m.decls.length : Int) := Int.emod_nonneg _ hnne
        have hk2 : a % (m.decls.length : Int) < m.decls.length := Int.emod_lt_of_pos _ hn0
        obtain ⟨kk, hkk⟩ : ∃ kk : Nat, a % (m.decls.length : Int) = (kk : Int) := ⟨(a % (m.decls.length : Int)).toNat, by omega⟩
        have hkI : (kk : Int) < (m.decls.length : Int) := by omega
        have hk0 : (0 : Int) ≤ (kk : Int) := by omega
        have hkn : kk < m.decls.length := by omega
        obtain ⟨d, hd⟩ : ∃ d, m.decls[kk] = d := ⟨_, rfl⟩
        obtain ⟨hfd, bd, od, na7, nc7, sa7, sc7, hda, hbd, hty, c0, c1', c2', c3, c4, c5, c6, c7, c8⟩ := ((HM.out.under BC.out).mono BC.out.size).decls.elem hkn hd
        obtain rfl := hda
        have HTD := Lib.hid hty
        have HDD := Lib.hid hd
        have hmod : (Int.tmod a (m.decls.length : Int)) = (kk : Int) := by rw [Int.tmod_eq_emod_of_nonneg ha1, hkk]
        clear hk1 hk2 hty hd
        have hwk : IntKind.i64.wrap ((kk : Nat) : Int) = (kk : Int) := IntWalk.i64_in _ (by omega)
        have lbd : bd < wn.heap.size := by omega
        go_upto_region 16 with fail
        refine wp_region_until [(10, fun w' => w'.cell? ⟨w.heap.size, 2, none⟩ = some (.slice (some ⟨bd, od, none⟩) m.decls.length dc) ∧ w'.cell? ⟨bd, od + kk * 9, none⟩ = some (.int .i64 d.kind) ∧ w'.cell? ⟨bd, od + kk * 9 + 1, none⟩ = some (.string d.name) ∧ w'.cell? ⟨bd, od + kk * 9 + 2, none⟩ = some (.int .i64 d.ty.kind) ∧ w'.cell? ⟨bd, od + kk * 9 + 3, none⟩ = some (.string d.ty.pkg) ∧ w'.cell? ⟨bd, od + kk * 9 + 4, none⟩ = some (.int .i64 d.ty.major) ∧ w'.cell? ⟨bd, od + kk * 9 + 5, none⟩ = some (.string d.ty.mod) ∧ w'.cell? ⟨bd, od + kk * 9 + 6, none⟩ = some (.string d.ty.name) ∧ w'.cell? ⟨bd, od + kk * 9 + 7, none⟩ = some (.slice na7 d.ty.names.length nc7) ∧ w'.cell? ⟨bd, od + kk * 9 + 8, none⟩ = some (.slice sa7 d.ty.subs.length sc7))] (by kernel_rfl) (Until.cons (fun _ => ⟨m2, c0, c1', c2', c3, c4, c5, c6, c7, c8⟩) Until.nil) (fun hU => ?_)
        refine AnyU.take (i := 0) (v := ?_) rfl (by kernel_rfl) (by kernel_rfl) (by kernel_rfl) (fun _ _ _ h => h) (by kernel_rfl) (by assumption) (by rfl) ?_ (fun hV => ?_)
        rotate_left 1
        · (intro wq; go_simp; try with_reducible rfl)
        clear hU
        have hU := hV
        clear hV
        try simp only [Act.put, List.getElem_toArray, List.getElem_cons_zero, List.getElem_cons_succ, List.setIfInBounds_toArray, List.set_cons_zero, List.set_cons_succ]
        refine AnyU.loadc (i := 1) (d := 10) [7, 8, 10] (Si := fun w' => w'.cell? ⟨w.heap.size, 2, none⟩ = some (.slice (some ⟨bd, od, none⟩) m.decls.length dc) ∧ w'.cell? ⟨bd, od + kk * 9, none⟩ = some (.int .i64 d.kind) ∧ w'.cell? ⟨bd, od + kk * 9 + 1, none⟩ = some (.string d.name) ∧ w'.cell? ⟨bd, od + kk * 9 + 2, none⟩ = some (.int .i64 d.ty.kind) ∧ w'.cell? ⟨bd, od + kk * 9 + 3, none⟩ = some (.string d.ty.pkg) ∧ w'.cell? ⟨bd, od + kk * 9 + 4, none⟩ = some (.int .i64 d.ty.major) ∧ w'.cell? ⟨bd, od + kk * 9 + 5, none⟩ = some (.string d.ty.mod) ∧ w'.cell? ⟨bd, od + kk * 9 + 6, none⟩ = some (.string d.ty.name) ∧ w'.cell? ⟨bd, od + kk * 9 + 7, none⟩ = some (.slice na7 d.ty.names.length nc7) ∧ w'.cell? ⟨bd, od + kk * 9 + 8, none⟩ = some (.slice sa7 d.ty.subs.length sc7)) (v := ?_) rfl (by kernel_rfl) (by kernel_rfl) (by kernel_rfl) (fun _ _ _ h => h) (by kernel_rfl) (by assumption) (by kernel_rfl) rfl (by simp) (by rfl) ?_ (fun hV => ?_)
        rotate_left 1
        · (intro wq hq; obtain ⟨u, -⟩ := hq; go_simp; try with_reducible rfl)
        clear hU
        have hU := hV
        clear hV
        try simp only [Act.put, List.getElem_toArray, List.getElem_cons_zero, List.getElem_cons_succ, List.setIfInBounds_toArray, List.set_cons_zero, List.set_cons_succ]
        refine AnyU.take (i := 2) (v := ?_) rfl (by kernel_rfl) (by kernel_rfl) (by kernel_rfl) (fun _ _ _ h => h) (by kernel_rfl) (by assumption) (by rfl) ?_ (fun hV => ?_)
        rotate_left 1
        · (intro wq; go_simp; try with_reducible rfl)
        clear hU
        have hU := hV
        clear hV
        try simp only [Act.put, List.getElem_toArray, List.getElem_cons_zero, List.getElem_cons_succ, List.setIfInBounds_toArray, List.set_cons_zero, List.set_cons_succ]
        refine AnyU.take (i := 3) (v := ?_) rfl (by kernel_rfl) (by kernel_rfl) (by kernel_rfl) (fun _ _ _ h => h) (by kernel_rfl) (by assumption) (by rfl) ?_ (fun hV => ?_)
        rotate_left 1
        · (intro wq; go_simp; try with_reducible rfl)
        clear hU
        have hU := hV
        clear hV
        try simp only [Act.put, List.getElem_toArray, List.getElem_cons_zero, List.getElem_cons_succ, List.setIfInBounds_toArray, List.set_cons_zero, List.set_cons_succ]
        refine AnyU.loadc (i := 4) (d := 10) [5, 6, 7, 8, 10] (Si := fun w' => w'.cell? ⟨w.heap.size, 2, none⟩ = some (.slice (some ⟨bd, od, none⟩) m.decls.length dc) ∧ w'.cell? ⟨bd, od + kk * 9, none⟩ = some (.int .i64 d.kind) ∧ w'.cell? ⟨bd, od + kk * 9 + 1, none⟩ = some (.string d.name) ∧ w'.cell? ⟨bd, od + kk * 9 + 2, none⟩ = some (.int .i64 d.ty.kind) ∧ w'.cell? ⟨bd, od + kk * 9 + 3, none⟩ = some (.string d.ty.pkg) ∧ w'.cell? ⟨bd, od + kk * 9 + 4, none⟩ = some (.int .i64 d.ty.major) ∧ w'.cell? ⟨bd, od + kk * 9 + 5, none⟩ = some (.string d.ty.mod) ∧ w'.cell? ⟨bd, od + kk * 9 + 6, none⟩ = some (.string d.ty.name) ∧ w'.cell? ⟨bd, od + kk * 9 + 7, none⟩ = some (.slice na7 d.ty.names.length nc7) ∧ w'.cell? ⟨bd, od + kk * 9 + 8, none⟩ = some (.slice sa7 d.ty.subs.length sc7)) (v := ?_) rfl (by kernel_rfl) (by kernel_rfl) (by kernel_rfl) (fun _ _ _ h => h) (by kernel_rfl) (by assumption) (by kernel_rfl) rfl (by simp) (by rfl) ?_ (fun hV => ?_)
        rotate_left 1
        · (intro wq hq; obtain ⟨u, -⟩ := hq; go_simp; try with_reducible rfl)
        clear hU
        have hU := hV
        clear hV
        try simp only [Act.put, List.getElem_toArray, List.getElem_cons_zero, List.getElem_cons_succ, List.setIfInBounds_toArray, List.set_cons_zero, List.set_cons_succ]
        refine AnyU.take (i := 5) (v := ?_) rfl (by kernel_rfl) (by kernel_rfl) (by kernel_rfl) (fun _ _ _ h => h) (by kernel_rfl) (by assumption) (by rfl) ?_ (fun hV => ?_)
        rotate_left 1
        · (intro wq; go_simp; try with_reducible rfl)
        clear hU
        have hU := hV
        clear hV
        try simp only [Act.put, List.getElem_toArray, List.getElem_cons_zero, List.getElem_cons_succ, List.setIfInBounds_toArray, List.set_cons_zero, List.set_cons_succ]
        refine AnyU.take (i := 6) (v := ?_) rfl (by kernel_rfl) (by kernel_rfl) (by kernel_rfl) (fun _ _ _ h => h) (by kernel_rfl) (by assumption) (by rfl) ?_ (fun hV => ?_)
        rotate_left 1
        · (intro wq; go_simp; try with_reducible rfl)
        clear hU
        have hU := hV
        clear hV
        try simp only [Act.put, List.getElem_toArray, List.getElem_cons_zero, List.getElem_cons_succ, List.setIfInBounds_toArray, List.set_cons_zero, List.set_cons_succ]
        refine AnyU.take (i := 7) (v := ?_) rfl (by kernel_rfl) (by kernel_rfl) (by kernel_rfl) (fun _ _ _ h => h) (by kernel_rfl) (by assumption) (by rfl) ?_ (fun hV => ?_)
        rotate_left 1
        · (intro wq; go_simp; try with_reducible rfl)
        clear hU
        have hU := hV
        clear hV
        try simp only [Act.put, List.getElem_toArray, List.getElem_cons_zero, List.getElem_cons_succ, List.setIfInBounds_toArray, List.set_cons_zero, List.set_cons_succ]
        refine AnyU.loadc (i := 8) (d := 10) [10] (Si := fun w' => w'.cell? ⟨w.heap.size, 2, none⟩ = some (.slice (some ⟨bd, od, none⟩) m.decls.length dc) ∧ w'.cell? ⟨bd, od + kk * 9, none⟩ = some (.int .i64 d.kind) ∧ w'.cell? ⟨bd, od + kk * 9 + 1, none⟩ = some (.string d.name) ∧ w'.cell? ⟨bd, od + kk * 9 + 2, none⟩ = some (.int .i64 d.ty.kind) ∧ w'.cell? ⟨bd, od + kk * 9 + 3, none⟩ = some (.string d.ty.pkg) ∧ w'.cell? ⟨bd, od + kk * 9 + 4, none⟩ = some (.int .i64 d.ty.major) ∧ w'.cell? ⟨bd, od + kk * 9 + 5, none⟩ = some (.string d.ty.mod) ∧ w'.cell? ⟨bd, od + kk * 9 + 6, none⟩ = some (.string d.ty.name) ∧ w'.cell? ⟨bd, od + kk * 9 + 7, none⟩ = some (.slice na7 d.ty.names.length nc7) ∧ w'.cell? ⟨bd, od + kk * 9 + 8, none⟩ = some (.slice sa7 d.ty.subs.length sc7)) (v := ?_) rfl (by kernel_rfl) (by kernel_rfl) (by kernel_rfl) (fun _ _ _ h => h) (by kernel_rfl) (by assumption) (by kernel_rfl) rfl (by simp) (by rfl) ?_ (fun hV => ?_)
        rotate_left 1
        · (intro wq hq; obtain ⟨-, u0, u1, u2, u3, u4, u5, u6, u7, u8⟩ := hq; go_simp; try with_reducible rfl)
        clear hU
        have hU := hV
        clear hV
        try simp only [Act.put, List.getElem_toArray, List.getElem_cons_zero, List.getElem_cons_succ, List.setIfInBounds_toArray, List.set_cons_zero, List.set_cons_succ]
        clear hmod hwk
        refine AnyU.ready1 (i := 9) (by kernel_rfl) (AnyU.one rfl fun K hK => ?_)
        go_simp
        obtain ⟨zb, hb0, hzs⟩ := laidD wn #[.int .i64 0, .string { data := #[] }, .int .i64 0, .string { data := #[] }, .int .i64 0, .string { data := #[] }, .string { data := #[] }, .slice none 0 0, .slice none 0 0] 45
        generalize (wn.alloc (.cells #[.int .i64 0, .string { data := #[] }, .int .i64 0, .string { data := #[] }, .int .i64 0, .string { data := #[] }, .string { data := #[] }, .slice none 0 0, .slice none 0 0] 45)).drew = X3 at zb hb0 hzs ⊢
        have nn2 := (hb0.cell (p := ⟨w.heap.size, 2, none⟩) ml).trans m2
        have nnc0 := (hb0.cell (p := ⟨bd, od + kk * 9, none⟩) lbd).trans c0
        have nnc1 := (hb0.cell (p := ⟨bd, od + kk * 9 + 1, none⟩) lbd).trans c1'
        have nnc2 := (hb0.cell (p := ⟨bd, od + kk * 9 + 2, none⟩) lbd).trans c2'
        have nnc3 := (hb0.cell (p := ⟨bd, od + kk * 9 + 3, none⟩) lbd).trans c3
        have nnc4 := (hb0.cell (p := ⟨bd, od + kk * 9 + 4, none⟩) lbd).trans c4
        have nnc5 := (hb0.cell (p := ⟨bd, od + kk * 9 + 5, none⟩) lbd).trans c5
        have nnc6 := (hb0.cell (p := ⟨bd, od + kk * 9 + 6, none⟩) lbd).trans c6
        have nnc7 := (hb0.cell (p := ⟨bd, od + kk * 9 + 7, none⟩) lbd).trans c7
        have nnc8 := (hb0.cell (p := ⟨bd, od + kk * 9 + 8, none⟩) lbd).trans c8
        refine hK.out _ _ (Until.cons (fun _ => ⟨nn2, nnc0, nnc1, nnc2, nnc3, nnc4, nnc5, nnc6, nnc7, nnc8⟩) Until.nil) (fun hV => ?_)
        clear hK K hU
        have hU := hV
        clear hV
        try simp only [Act.put, List.getElem_toArray, List.getElem_cons_zero, List.getElem_cons_succ, List.setIfInBounds_toArray, List.set_cons_zero, List.set_cons_succ]
        obtain ⟨d0, d1, d2, d3, d4, d5, d6, d7, d8⟩ := cellsT9 zb
        have f0 := zb.free 0
        have f1 := zb.free 1
        have f2 := zb.free 2
        have f3 := zb.free 3
        have f4 := zb.free 4
        have f5 := zb.free 5
        have f6 := zb.free 6
        have f7 := zb.free 7
        have f8 := zb.free 8
        have ld := zb.lt
        refine AnyU.ready1 (i := 10) (by kernel_rfl) (AnyU.one rfl fun K hK => ?_)
        go_simp
        have hp := pf9 (.int .i64 d.kind) (.string d.name) (.int .i64 d.ty.kind) (.string d.ty.pkg) (.int .i64 d.ty.major) (.string d.ty.mod) (.string d.ty.name) (.slice na7 d.ty.names.length nc7) (.slice sa7 d.ty.subs.length sc7) zb
        have hb := pb9 (.int .i64 d.kind) (.string d.name) (.int .i64 d.ty.kind) (.string d.ty.pkg) (.int .i64 d.ty.major) (.string d.ty.mod) (.string d.ty.name) (.slice na7 d.ty.names.length nc7) (.slice sa7 d.ty.subs.length sc7) hb0 (Nat.le_refl _)
        generalize (((((((((X3.setCell ⟨wn.heap.size, 0, none⟩ (.int .i64 d.kind)).setCell ⟨wn.heap.size, 1, none⟩ (.string d.name)).setCell ⟨wn.heap.size, 2, none⟩ (.int .i64 d.ty.kind)).setCell ⟨wn.heap.size, 3, none⟩ (.string d.ty.pkg)).setCell ⟨wn.heap.size, 4, none⟩ (.int .i64 d.ty.major)).setCell ⟨wn.heap.size, 5, none⟩ (.string d.ty.mod)).setCell ⟨wn.heap.size, 6, none⟩ (.string d.ty.name)).setCell ⟨wn.heap.size, 7, none⟩ (.slice na7 d.ty.names.length nc7)).setCell ⟨wn.heap.size, 8, none⟩ (.slice sa7 d.ty.subs.length sc7)) = Wd at hp hb ⊢
        refine hK.out _ _ (Until.offT (by kernel_rfl)) (fun hV => ?_)
        clear hK K hU
        have hU := hV
        clear hV
        try simp only [Act.put, List.getElem_toArray, List.getElem_cons_zero, List.getElem_cons_succ, List.setIfInBounds_toArray, List.set_cons_zero, List.set_cons_succ]
        refine AnyU.done (by kernel_rfl) ?_
        clear m0 m1 m2 k0 k1 k2 k3 k4 k5 k6 x0 x1 x2 x3 x4 x5 x6 y0 y1 y2 y3 y4 y5 y6 ml kl xl yl
        have D0 := Lib.hid (D0.out.under hb D0.out.lt)
        have D1 := Lib.hid (D1.out.under hb D1.out.lt)
        have D2 := Lib.hid (D2.out.under hb D2.out.lt)
        have D3 := Lib.hid (D3.out.under hb D3.out.lt)
        have HXT := Lib.hid ((HXT.out.under hb).mono hb.size)
        have HYT := Lib.hid ((HYT.out.under hb).mono hb.size)
        have HTD := Lib.hid ((HTD.out.under hb).mono hb.size)
        have BC := Lib.hid (BC.out.trans (hb.mono BC.out.size))
        have D7 := Lib.hid hp
        clear hp hb hb0 zb hzs ld d0 d1 d2 d3 d4 d5 d6 d7 d8 f0 f1 f2 f3 f4 f5 f6 f7 f8 nn2 nnc0 nnc1 nnc2 nnc3 nnc4 nnc5 nnc6 nnc7 nnc8 c0 c1' c2' c3 c4 c5 c6 c7 c8 lbd
        obtain ⟨m0, m1, m2⟩ := cellsT3 D0.out
        have ml := D0.out.lt
        obtain ⟨k0, k1, k2, k3, k4, k5, k6⟩ := cellsT7 D1.out
        have kl := D1.out.lt
        obtain ⟨x0, x1, x2, x3, x4, x5, x6⟩ := cellsT7 D2.out
        have xl := D2.out.lt
        obtain ⟨y0, y1, y2, y3, y4, y5, y6⟩ := cellsT7 D3.out
        have yl := D3.out.lt
        obtain ⟨d0, d1, d2, d3, d4, d5, d6, d7, d8⟩ := cellsT9 D7.out
        have dl := D7.out.lt
        by_cases hd3 : d.kind = 3
        · have hd3b : (d.kind == 3) = true := by simp [hd3]
          have HD3 := Lib.hid hd3
          clear hd3
          go_upto_region 20 with (go_at_call 32; refine (expand_c ⟨m, pkg, j, env⟩ ia ic (some ⟨bd, od, none⟩) dc ea ec _ d.ty _ _ (env_of ((HM.out.under BC.out).mono BC.out.size) ((HE.out.under BC.out).mono BC.out.size) H1.out H3.out HP.out hec ⟨hj1, hj2⟩) HTD.out (Nat.le_refl _)).mono ?_; rintro e wn ⟨c3, z, cs5, rfl, hxi, hxt, hb⟩; have D0 := Lib.hid (D0.out.under hb D0.out.lt); have D1 := Lib.hid (D1.out.under hb D1.out.lt); have D2 := Lib.hid (D2.out.under hb D2.out.lt); have D3 := Lib.hid (D3.out.under hb D3.out.lt); have D7 := Lib.hid (D7.out.under hb D7.out.lt); have HXT := Lib.hid ((HXT.out.under hb).mono hb.size); have HYT := Lib.hid ((HYT.out.under hb).mono hb.size); have HTD := Lib.hid ((HTD.out.under hb).mono hb.size); have BC := Lib.hid (BC.out.trans (hb.mono BC.out.size)); obtain ⟨na5, nc5, sa5, sc5, f5, rfl, -⟩ := hxt.inv; simp only [tyCells]; have HZI := Lib.hid hxi; have HZT := Lib.hid (hxt.mono (M' := (· < wn.heap.size)) fun b hb => hb.2).toC; clear hxi hxt; clear hb; clear m0 m1 m2 k0 k1 k2 k3 k4 k5 k6 x0 x1 x2 x3 x4 x5 x6 y0 y1 y2 y3 y4 y5 y6 d0 d1 d2 d3 d4 d5 d6 d7 d8 ml kl xl yl dl; obtain ⟨m0, m1, m2⟩ := cellsT3 D0.out; have ml := D0.out.lt; obtain ⟨k0, k1, k2, k3, k4, k5, k6⟩ := cellsT7 D1.out; have kl := D1.out.lt; obtain ⟨x0, x1, x2, x3, x4, x5, x6⟩ := cellsT7 D2.out; have xl := D2.out.lt; obtain ⟨y0, y1, y2, y3, y4, y5, y6⟩ := cellsT7 D3.out; have yl := D3.out.lt; obtain ⟨d0, d1, d2, d3, d4, d5, d6, d7, d8⟩ := cellsT9 D7.out; have dl := D7.out.lt)
          clear m0 m1 m2 k0 k1 k2 k3 k4 k5 k6 x0 x1 x2 x3 x4 x5 x6 y0 y1 y2 y3 y4 y5 y6 d0 d1 d2 d3 d4 d5 d6 d7 d8 ml kl xl yl dl
          obtain ⟨bN, hb, hzN⟩ := laidN wn #[.int .i64 z.kind, .string z.pkg, .int .i64 z.major, .string z.mod, .string z.name, .slice na5 z.names.length nc5, .slice sa5 z.subs.length sc5] 29
          generalize (wn.alloc (.cells #[.int .i64 z.kind, .string z.pkg, .int .i64 z.major, .string z.mod, .string z.name, .slice na5 z.names.length nc5, .slice sa5 z.subs.length sc5] 29)) = W20 at bN hb hzN ⊢
          have D0 := Lib.hid (D0.out.under hb D0.out.lt)
          have D1 := Lib.hid (D1.out.under hb D1.out.lt)
          have D2 := Lib.hid (D2.out.under hb D2.out.lt)
          have D3 := Lib.hid (D3.out.under hb D3.out.lt)
          have D7 := Lib.hid (D7.out.under hb D7.out.lt)
          have HXT := Lib.hid ((HXT.out.under hb).mono hb.size)
          have HYT := Lib.hid ((HYT.out.under hb).mono hb.size)
          have HTD := Lib.hid ((HTD.out.under hb).mono hb.size)
          have HZT := Lib.hid ((HZT.out.under hb).mono hb.size)
          have BC := Lib.hid (BC.out.trans (hb.mono BC.out.size))
          have D8 := Lib.hid bN
          clear bN hb hzN
          obtain ⟨m0, m1, m2⟩ := cellsT3 D0.out
          have ml := D0.out.lt
          obtain ⟨k0, k1, k2, k3, k4, k5, k6⟩ := cellsT7 D1.out
          have kl := D1.out.lt
          obtain ⟨x0, x1, x2, x3, x4, x5, x6⟩ := cellsT7 D2.out
          have xl := D2.out.lt
          obtain ⟨y0, y1, y2, y3, y4, y5, y6⟩ := cellsT7 D3.out
          have yl := D3.out.lt
          obtain ⟨d0, d1, d2, d3, d4, d5, d6, d7, d8⟩ := cellsT9 D7.out
          have dl := D7.out.lt
          obtain ⟨z0, z1, z2, z3, z4, z5, z6⟩ := cellsT7 D8.out
          have zl := D8.out.lt
          go_upto_region 21 with (go_at_call 32; refine (expand_c ⟨m, pkg, j, env⟩ ia ic (some ⟨bd, od, none⟩) dc ea ec _ (locT d.name) _ _ (env_of ((HM.out.under BC.out).mono BC.out.size) ((HE.out.under BC.out).mono BC.out.size) H1.out H3.out HP.out hec ⟨hj1, hj2⟩) (loc_at _ _ d.name hfd.name) (Nat.le_refl _)).mono ?_; rintro e wn ⟨c4, v, cs6, rfl, hxi, hxt, hb⟩; have D0 := Lib.hid (D0.out.under hb D0.out.lt); have D1 := Lib.hid (D1.out.under hb D1.out.lt); have D2 := Lib.hid (D2.out.under hb D2.out.lt); have D3 := Lib.hid (D3.out.under hb D3.out.lt); have D7 := Lib.hid (D7.out.under hb D7.out.lt); have D8 := Lib.hid (D8.out.under hb D8.out.lt); have HXT := Lib.hid ((HXT.out.under hb).mono hb.size); have HYT := Lib.hid ((HYT.out.under hb).mono hb.size); have HTD := Lib.hid ((HTD.out.under hb).mono hb.size); have HZT := Lib.hid ((HZT.out.under hb).mono hb.size); have BC := Lib.hid (BC.out.trans (hb.mono BC.out.size)); obtain ⟨na6, nc6, sa6, sc6, f6, rfl, -⟩ := hxt.inv; simp only [tyCells]; have HVI := Lib.hid hxi; have HVT := Lib.hid (hxt.mono (M' := (· < wn.heap.size)) fun b hb => hb.2).toC; clear hxi hxt; clear hb; clear m0 m1 m2 k0 k1 k2 k3 k4 k5 k6 x0 x1 x2 x3 x4 x5 x6 y0 y1 y2 y3 y4 y5 y6 d0 d1 d2 d3 d4 d5 d6 d7 d8 z0 z1 z2 z3 z4 z5 z6 ml kl xl yl dl zl; obtain ⟨m0, m1, m2⟩ := cellsT3 D0.out; have ml := D0.out.lt; obtain ⟨k0, k1, k2, k3, k4, k5, k6⟩ := cellsT7 D1.out; have kl := D1.out.lt; obtain ⟨x0, x1, x2, x3, x4, x5, x6⟩ := cellsT7 D2.out; have xl := D2.out.lt; obtain ⟨y0, y1, y2, y3, y4, y5, y6⟩ := cellsT7 D3.out; have yl := D3.out.lt; obtain ⟨d0, d1, d2, d3, d4, d5, d6, d7, d8⟩ := cellsT9 D7.out; have dl := D7.out.lt; obtain ⟨z0, z1, z2, z3, z4, z5, z6⟩ := cellsT7 D8.out; have zl := D8.out.lt)
          clear m0 m1 m2 k0 k1 k2 k3 k4 k5 k6 x0 x1 x2 x3 x4 x5 x6 y0 y1 y2 y3 y4 y5 y6 d0 d1 d2 d3 d4 d5 d6 d7 d8 z0 z1 z2 z3 z4 z5 z6 ml kl xl yl dl zl
          obtain ⟨bN, hb, hzN⟩ := laidN wn #[.int .i64 v.kind, .string v.pkg, .int .i64 v.major, .string v.mod, .string v.name, .slice na6 v.names.length nc6, .slice sa6 v.subs.length sc6] 29
          generalize (wn.alloc (.cells #[.int .i64 v.kind, .string v.pkg, .int .i64 v.major, .string v.mod, .string v.name, .slice na6 v.names.length nc6, .slice sa6 v.subs.length sc6] 29)) = W21 at bN hb hzN ⊢
          have D0 := Lib.hid (D0.out.under hb D0.out.lt)
          have D1 := Lib.hid (D1.out.under hb D1.out.lt)
          have D2 := Lib.hid (D2.out.under hb D2.out.lt)
          have D3 := Lib.hid (D3.out.under hb D3.out.lt)
          have D7 := Lib.hid (D7.out.under hb D7.out.lt)
          have D8 := Lib.hid (D8.out.under hb D8.out.lt)
          have HXT := Lib.hid ((HXT.out.under hb).mono hb.size)
          have HYT := Lib.hid ((HYT.out.under hb).mono hb.size)
          have HTD := Lib.hid ((HTD.out.under hb).mono hb.size)
          have HZT := Lib.hid ((HZT.out.under hb).mono hb.size)
          have HVT := Lib.hid ((HVT.out.under hb).mono hb.size)
          have BC := Lib.hid (BC.out.trans (hb.mono BC.out.size))
          have D9 := Lib.hid bN
          clear bN hb hzN
          obtain ⟨m0, m1, m2⟩ := cellsT3 D0.out
          have ml := D0.out.lt
          obtain ⟨k0, k1, k2, k3, k4, k5, k6⟩ := cellsT7 D1.out
          have kl := D1.out.lt
          obtain ⟨x0, x1, x2, x3, x4, x5, x6⟩ := cellsT7 D2.out
          have xl := D2.out.lt
          obtain ⟨y0, y1, y2, y3, y4, y5, y6⟩ := cellsT7 D3.out
          have yl := D3.out.lt
          obtain ⟨d0, d1, d2, d3, d4, d5, d6, d7, d8⟩ := cellsT9 D7.out
          have dl := D7.out.lt
          obtain ⟨z0, z1, z2, z3, z4, z5, z6⟩ := cellsT7 D8.out
          have zl := D8.out.lt
          obtain ⟨v0, v1, v2, v3, v4, v5, v6⟩ := cellsT7 D9.out
          have vl := D9.out.lt
          have hcv : c3 = c4 ∧ z = v := by
            have h1 : ExpIs ⟨m, pkg, j, env⟩ m.decls[kk].ty c3 z := by rw [HDD.out]; exact HZI.out
            have h2 : ExpIs ⟨m, pkg, j, env⟩ (locT m.decls[kk].name) c4 v := by rw [HDD.out]; exact HVI.out
            exact ExpIs.alias (E := ⟨m, pkg, j, env⟩) hkn (by show m.decls[kk].kind = 3; rw [HDD.out]; exact HD3.out) HN.out h1 h2
          obtain ⟨rfl, rfl⟩ := hcv
          have hcodes := HZI.out.codes
          have HCD := Lib.hid hcodes
          clear hcodes
          go_wp2_with (first
            | (go_at_call 34; refine (code_any c3 HCD.out _).mono ?_; rintro e wn ⟨rfl, hb⟩; have D0 := Lib.hid (D0.out.under hb D0.out.lt); have D1 := Lib.hid (D1.out.under hb D1.out.lt); have D2 := Lib.hid (D2.out.under hb D2.out.lt); have D3 := Lib.hid (D3.out.under hb D3.out.lt); have D7 := Lib.hid (D7.out.under hb D7.out.lt); have D8 := Lib.hid (D8.out.under hb D8.out.lt); have D9 := Lib.hid (D9.out.under hb D9.out.lt); have HXT := Lib.hid ((HXT.out.under hb).mono hb.size); have HYT := Lib.hid ((HYT.out.under hb).mono hb.size); have HTD := Lib.hid ((HTD.out.under hb).mono hb.size); have HZT := Lib.hid ((HZT.out.under hb).mono hb.size); have HVT := Lib.hid ((HVT.out.under hb).mono hb.size); have BC := Lib.hid (BC.out.trans (hb.mono BC.out.size)); clear hb; clear m0 m1 m2 k0 k1 k2 k3 k4 k5 k6 x0 x1 x2 x3 x4 x5 x6 y0 y1 y2 y3 y4 y5 y6 d0 d1 d2 d3 d4 d5 d6 d7 d8 z0 z1 z2 z3 z4 z5 z6 v0 v1 v2 v3 v4 v5 v6 ml kl xl yl dl zl vl; obtain ⟨m0, m1, m2⟩ := cellsT3 D0.out; have ml := D0.out.lt; obtain ⟨k0, k1, k2, k3, k4, k5, k6⟩ := cellsT7 D1.out; have kl := D1.out.lt; obtain ⟨x0, x1, x2, x3, x4, x5, x6⟩ := cellsT7 D2.out; have xl := D2.out.lt; obtain ⟨y0, y1, y2, y3, y4, y5, y6⟩ := cellsT7 D3.out; have yl := D3.out.lt; obtain ⟨d0, d1, d2, d3, d4, d5, d6, d7, d8⟩ := cellsT9 D7.out; have dl := D7.out.lt; obtain ⟨z0, z1, z2, z3, z4, z5, z6⟩ := cellsT7 D8.out; have zl := D8.out.lt; obtain ⟨v0, v1, v2, v3, v4, v5, v6⟩ := cellsT7 D9.out; have vl := D9.out.lt)
            | (go_at_call 31; refine (same_yes rfl HZT.out HVT.out (Nat.le_refl _)).mono ?_; rintro e wn ⟨rfl, hb⟩; have D0 := Lib.hid (D0.out.under hb D0.out.lt); have D1 := Lib.hid (D1.out.under hb D1.out.lt); have D2 := Lib.hid (D2.out.under hb D2.out.lt); have D3 := Lib.hid (D3.out.under hb D3.out.lt); have D7 := Lib.hid (D7.out.under hb D7.out.lt); have D8 := Lib.hid (D8.out.under hb D8.out.lt); have D9 := Lib.hid (D9.out.under hb D9.out.lt); have HXT := Lib.hid ((HXT.out.under hb).mono hb.size); have HYT := Lib.hid ((HYT.out.under hb).mono hb.size); have HTD := Lib.hid ((HTD.out.under hb).mono hb.size); have HZT := Lib.hid ((HZT.out.under hb).mono hb.size); have HVT := Lib.hid ((HVT.out.under hb).mono hb.size); have BC := Lib.hid (BC.out.trans (hb.mono BC.out.size)); clear hb; clear m0 m1 m2 k0 k1 k2 k3 k4 k5 k6 x0 x1 x2 x3 x4 x5 x6 y0 y1 y2 y3 y4 y5 y6 d0 d1 d2 d3 d4 d5 d6 d7 d8 z0 z1 z2 z3 z4 z5 z6 v0 v1 v2 v3 v4 v5 v6 ml kl xl yl dl zl vl; obtain ⟨m0, m1, m2⟩ := cellsT3 D0.out; have ml := D0.out.lt; obtain ⟨k0, k1, k2, k3, k4, k5, k6⟩ := cellsT7 D1.out; have kl := D1.out.lt; obtain ⟨x0, x1, x2, x3, x4, x5, x6⟩ := cellsT7 D2.out; have xl := D2.out.lt; obtain ⟨y0, y1, y2, y3, y4, y5, y6⟩ := cellsT7 D3.out; have yl := D3.out.lt; obtain ⟨d0, d1, d2, d3, d4, d5, d6, d7, d8⟩ := cellsT9 D7.out; have dl := D7.out.lt; obtain ⟨z0, z1, z2, z3, z4, z5, z6⟩ := cellsT7 D8.out; have zl := D8.out.lt; obtain ⟨v0, v1, v2, v3, v4, v5, v6⟩ := cellsT7 D9.out; have vl := D9.out.lt))
          go_ret
          exact ⟨rfl, BC.out⟩
        · have hd3b : (d.kind == 3) = false := by simp [hd3]
          clear hd3
          go_wp2_with fail
          go_ret
          exact ⟨rfl, BC.out⟩
    · go_wp2_with fail
      go_ret
      exact ⟨rfl, BC.out⟩
  · simp only [codeV_ne hc2]
    have HC2 := Lib.hid hc2
    clear hc2
    by_cases hc1 : c1 = 0
    · subst hc1
      simp only [codeV_zero]
      go_upto_region 12 with fail
      rcases err_kinds HEV.out with ⟨hn, rfl⟩ | ⟨hn, T, p, rfl⟩
      · have HN := Lib.hid hn
        clear hn
        by_cases h0 : m.decls.length = 0
        · have h0b : ((m.decls.length : Int) == 0) = true := by rw [h0]; rfl
          clear h0
          go_wp2_with fail
          go_ret
          exact ⟨rfl, BC.out⟩
        have h0b : ((m.decls.length : Int) == 0) = false := by simpa using h0
        have hn0 : (0 : Int) < (m.decls.length : Int) := by omega
        have hnne : (m.decls.length : Int) ≠ 0 := by omega
        go_upto_if 104 with fail
        go_cut [5] (fun v wx => ∃ a : Int, v = .int .i64 a ∧ 0 ≤ a ∧ a ≤ 9223372036854775807 ∧ wx = W10)
        case first =>
          by_cases hneg : at_ < 0
          · go_wp2_with fail
            go_meet
            exact ⟨-(at_ + 1), by go_num, by omega, by omega, rfl⟩
          · go_wp2_with fail
            go_meet
            exact ⟨at_, rfl, by omega, by omega, rfl⟩
        case rest =>
          obtain ⟨a, rfl, ha1, ha2, hww⟩ := hcut
          obtain rfl := hww.symm
          clear hww
          have hk1 : 0 ≤ a % (m.decls.length : Int) := Int.emod_nonneg _ hnne
          have hk2 : a % (m.decls.length : Int) < m.decls.length := Int.emod_lt_of_pos _ hn0
          obtain ⟨kk, hkk⟩ : ∃ kk : Nat, a % (m.decls.length : Int) = (kk : Int) := ⟨(a % (m.decls.length : Int)).toNat, by omega⟩
          have hkI : (kk : Int) < (m.decls.length : Int) := by omega
          have hk0 : (0 : Int) ≤ (kk : Int) := by omega
          have hkn : kk < m.decls.length := by omega
          obtain ⟨d, hd⟩ : ∃ d, m.decls[kk] = d := ⟨_, rfl⟩
          obtain ⟨hfd, bd, od, na7, nc7, sa7, sc7, hda, hbd, hty, c0, c1', c2', c3, c4, c5, c6, c7, c8⟩ := ((HM.out.under BC.out).mono BC.out.size).decls.elem hkn hd
          obtain rfl := hda
          have HTD := Lib.hid hty
          have HDD := Lib.hid hd
          have hmod : (Int.tmod a (m.decls.length : Int)) = (kk : Int) := by rw [Int.tmod_eq_emod_of_nonneg ha1, hkk]
          clear hk1 hk2 hty hd
          have hwk : IntKind.i64.wrap ((kk : Nat) : Int) = (kk : Int) := IntWalk.i64_in _ (by omega)
          have lbd : bd < W10.heap.size := by omega
          go_upto_region 16 with fail
          refine wp_region_until [(10, fun w' => w'.cell? ⟨w.heap.size, 2, none⟩ = some (.slice (some ⟨bd, od, none⟩) m.decls.length dc) ∧ w'.cell? ⟨bd, od + kk * 9, none⟩ = some (.int .i64 d.kind) ∧ w'.cell? ⟨bd, od + kk * 9 + 1, none⟩ = some (.string d.name) ∧ w'.cell? ⟨bd, od + kk * 9 + 2, none⟩ = some (.int .i64 d.ty.kind) ∧ w'.cell? ⟨bd, od + kk * 9 + 3, none⟩ = some (.string d.ty.pkg) ∧ w'.cell? ⟨bd, od + kk * 9 + 4, none⟩ = some (.int .i64 d.ty.major) ∧ w'.cell? ⟨bd, od + kk * 9 + 5, none⟩ = some (.string d.ty.mod) ∧ w'.cell? ⟨bd, od + kk * 9 + 6, none⟩ = some (.string d.ty.name) ∧ w'.cell? ⟨bd, od + kk * 9 + 7, none⟩ = some (.slice na7 d.ty.names.length nc7) ∧ w'.cell? ⟨bd, od + kk * 9 + 8, none⟩ = some (.slice sa7 d.ty.subs.length sc7))] (by kernel_rfl) (Until.cons (fun _ => ⟨m2, c0, c1', c2', c3, c4, c5, c6, c7, c8⟩) Until.nil) (fun hU => ?_)
          refine AnyU.take (i := 0) (v := ?_) rfl (by kernel_rfl) (by kernel_rfl) (by kernel_rfl) (fun _ _ _ h => h) (by kernel_rfl) (by assumption) (by rfl) ?_ (fun hV => ?_)
          rotate_left 1
          · (intro wq; go_simp; try with_reducible rfl)
          clear hU
          have hU := hV
          clear hV
          try simp only [Act.put, List.getElem_toArray, List.getElem_cons_zero, List.getElem_cons_succ, List.setIfInBounds_toArray, List.set_cons_zero, List.set_cons_succ]
          refine AnyU.loadc (i := 1) (d := 10) [7, 8, 10] (Si := fun w' => w'.cell? ⟨w.heap.size, 2, none⟩ = some (.slice (some ⟨bd, od, none⟩) m.decls.length dc) ∧ w'.cell? ⟨bd, od + kk * 9, none⟩ = some (.int .i64 d.kind) ∧ w'.cell? ⟨bd, od + kk * 9 + 1, none⟩ = some (.string d.name) ∧ w'.cell? ⟨bd, od + kk * 9 + 2, none⟩ = some (.int .i64 d.ty.kind) ∧ w'.cell? ⟨bd, od + kk * 9 + 3, none⟩ = some (.string d.ty.pkg) ∧ w'.cell? ⟨bd, od + kk * 9 + 4, none⟩ = some (.int .i64 d.ty.major) ∧ w'.cell? ⟨bd, od + kk * 9 + 5, none⟩ = some (.string d.ty.mod) ∧ w'.cell? ⟨bd, od + kk * 9 + 6, none⟩ = some (.string d.ty.name) ∧ w'.cell? ⟨bd, od + kk * 9 + 7, none⟩ = some (.slice na7 d.ty.names.length nc7) ∧ w'.cell? ⟨bd, od + kk * 9 + 8, none⟩ = some (.slice sa7 d.ty.subs.length sc7)) (v := ?_) rfl (by kernel_rfl) (by kernel_rfl) (by kernel_rfl) (fun _ _ _ h => h) (by kernel_rfl) (by assumption) (by kernel_rfl) rfl (by simp) (by rfl) ?_ (fun hV => ?_)
          rotate_left 1
          · (intro wq hq; obtain ⟨u, -⟩ := hq; go_simp; try with_reducible rfl)
          clear hU
          have hU := hV
          clear hV
          try simp only [Act.put, List.getElem_toArray, List.getElem_cons_zero, List.getElem_cons_succ, List.setIfInBounds_toArray, List.set_cons_zero, List.set_cons_succ]
          refine AnyU.take (i := 2) (v := ?_) rfl (by kernel_rfl) (by kernel_rfl) (by kernel_rfl) (fun _ _ _ h => h) (by kernel_rfl) (by assumption) (by rfl) ?_ (fun hV => ?_)
          rotate_left 1
          · (intro wq; go_simp; try with_reducible rfl)
          clear hU
          have hU := hV
          clear hV
          try simp only [Act.put, List.getElem_toArray, List.getElem_cons_zero, List.getElem_cons_succ, List.setIfInBounds_toArray, List.set_cons_zero, List.set_cons_succ]
          refine AnyU.take (i := 3) (v := ?_) rfl (by kernel_rfl) (by kernel_rfl) (by kernel_rfl) (fun _ _ _ h => h) (by kernel_rfl) (by assumption) (by rfl) ?_ (fun hV => ?_)
          rotate_left 1
          · (intro wq; go_simp; try with_reducible rfl)
          clear hU
          have hU := hV
          clear hV
          try simp only [Act.put, List.getElem_toArray, List.getElem_cons_zero, List.getElem_cons_succ, List.setIfInBounds_toArray, List.set_cons_zero, List.set_cons_succ]
          refine AnyU.loadc (i := 4) (d := 10) [5, 6, 7, 8, 10] (Si := fun w' => w'.cell? ⟨w.heap.size, 2, none⟩ = some (.slice (some ⟨bd, od, none⟩) m.decls.length dc) ∧ w'.cell? ⟨bd, od + kk * 9, none⟩ = some (.int .i64 d.kind) ∧ w'.cell? ⟨bd, od + kk * 9 + 1, none⟩ = some (.string d.name) ∧ w'.cell? ⟨bd, od + kk * 9 + 2, none⟩ = some (.int .i64 d.ty.kind) ∧ w'.cell? ⟨bd, od + kk * 9 + 3, none⟩ = some (.string d.ty.pkg) ∧ w'.cell? ⟨bd, od + kk * 9 + 4, none⟩ = some (.int .i64 d.ty.major) ∧ w'.cell? ⟨bd, od + kk * 9 + 5, none⟩ = some (.string d.ty.mod) ∧ w'.cell? ⟨bd, od + kk * 9 + 6, none⟩ = some (.string d.ty.name) ∧ w'.cell? ⟨bd, od + kk * 9 + 7, none⟩ = some (.slice na7 d.ty.names.length nc7) ∧ w'.cell? ⟨bd, od + kk * 9 + 8, none⟩ = some (.slice sa7 d.ty.subs.length sc7)) (v := ?_) rfl (by kernel_rfl) (by kernel_rfl) (by kernel_rfl) (fun _ _ _ h => h) (by kernel_rfl) (by assumption) (by kernel_rfl) rfl (by simp) (by rfl) ?_ (fun hV => ?_)
          rotate_left 1
          · (intro wq hq; obtain ⟨u, -⟩ := hq; go_simp; try with_reducible rfl)
          clear hU
          have hU := hV
          clear hV
          try simp only [Act.put, List.getElem_toArray, List.getElem_cons_zero, List.getElem_cons_succ, List.setIfInBounds_toArray, List.set_cons_zero, List.set_cons_succ]
          refine AnyU.take (i := 5) (v := ?_) rfl (by kernel_rfl) (by kernel_rfl) (by kernel_rfl) (fun _ _ _ h => h) (by kernel_rfl) (by assumption) (by rfl) ?_ (fun hV => ?_)
          rotate_left 1
          · (intro wq; go_simp; try with_reducible rfl)
          clear hU
          have hU := hV
          clear hV
          try simp only [Act.put, List.getElem_toArray, List.getElem_cons_zero, List.getElem_cons_succ, List.setIfInBounds_toArray, List.set_cons_zero, List.set_cons_succ]
          refine AnyU.take (i := 6) (v := ?_) rfl (by kernel_rfl) (by kernel_rfl) (by kernel_rfl) (fun _ _ _ h => h) (by kernel_rfl) (by assumption) (by rfl) ?_ (fun hV => ?_)
          rotate_left 1
          · (intro wq; go_simp; try with_reducible rfl)
          clear hU
          have hU := hV
          clear hV
          try simp only [Act.put, List.getElem_toArray, List.getElem_cons_zero, List.getElem_cons_succ, List.setIfInBounds_toArray, List.set_cons_zero, List.set_cons_succ]
          refine AnyU.take (i := 7) (v := ?_) rfl (by kernel_rfl) (by kernel_rfl) (by kernel_rfl) (fun _ _ _ h => h) (by kernel_rfl) (by assumption) (by rfl) ?_ (fun hV => ?_)
          rotate_left 1
          · (intro wq; go_simp; try with_reducible rfl)
          clear hU
          have hU := hV
          clear hV
          try simp only [Act.put, List.getElem_toArray, List.getElem_cons_zero, List.getElem_cons_succ, List.setIfInBounds_toArray, List.set_cons_zero, List.set_cons_succ]
          refine AnyU.loadc (i := 8) (d := 10) [10] (Si := fun w' => w'.cell? ⟨w.heap.size, 2, none⟩ = some (.slice (some ⟨bd, od, none⟩) m.decls.length dc) ∧ w'.cell? ⟨bd, od + kk * 9, none⟩ = some (.int .i64 d.kind) ∧ w'.cell? ⟨bd, od + kk * 9 + 1, none⟩ = some (.string d.name) ∧ w'.cell? ⟨bd, od + kk * 9 + 2, none⟩ = some (.int .i64 d.ty.kind) ∧ w'.cell? ⟨bd, od + kk * 9 + 3, none⟩ = some (.string d.ty.pkg) ∧ w'.cell? ⟨bd, od + kk * 9 + 4, none⟩ = some (.int .i64 d.ty.major) ∧ w'.cell? ⟨bd, od + kk * 9 + 5, none⟩ = some (.string d.ty.mod) ∧ w'.cell? ⟨bd, od + kk * 9 + 6, none⟩ = some (.string d.ty.name) ∧ w'.cell? ⟨bd, od + kk * 9 + 7, none⟩ = some (.slice na7 d.ty.names.length nc7) ∧ w'.cell? ⟨bd, od + kk * 9 + 8, none⟩ = some (.slice sa7 d.ty.subs.length sc7)) (v := ?_) rfl (by kernel_rfl) (by kernel_rfl) (by kernel_rfl) (fun _ _ _ h => h) (by kernel_rfl) (by assumption) (by kernel_rfl) rfl (by simp) (by rfl) ?_ (fun hV => ?_)
          rotate_left 1
          · (intro wq hq; obtain ⟨-, u0, u1, u2, u3, u4, u5, u6, u7, u8⟩ := hq; go_simp; try with_reducible rfl)
          clear hU
          have hU := hV
          clear hV
          try simp only [Act.put, List.getElem_toArray, List.getElem_cons_zero, List.getElem_cons_succ, List.setIfInBounds_toArray, List.set_cons_zero, List.set_cons_succ]
          clear hmod hwk
          refine AnyU.ready1 (i := 9) (by kernel_rfl) (AnyU.one rfl fun K hK => ?_)
          go_simp
          obtain ⟨zb, hb0, hzs⟩ := laidD W10 #[.int .i64 0, .string { data := #[] }, .int .i64 0, .string { data := #[] }, .int .i64 0, .string { data := #[] }, .string { data := #[] }, .slice none 0 0, .slice none 0 0] 45
          generalize (W10.alloc (.cells #[.int .i64 0, .string { data := #[] }, .int .i64 0, .string { data := #[] }, .int .i64 0, .string { data := #[] }, .string { data := #[] }, .slice none 0 0, .slice none 0 0] 45)).drew = X3 at zb hb0 hzs ⊢
          have nn2 := (hb0.cell (p := ⟨w.heap.size, 2, none⟩) ml).trans m2
          have nnc0 := (hb0.cell (p := ⟨bd, od + kk * 9, none⟩) lbd).trans c0
          have nnc1 := (hb0.cell (p := ⟨bd, od + kk * 9 + 1, none⟩) lbd).trans c1'
          have nnc2 := (hb0.cell (p := ⟨bd, od + kk * 9 + 2, none⟩) lbd).trans c2'
          have nnc3 := (hb0.cell (p := ⟨bd, od + kk * 9 + 3, none⟩) lbd).trans c3
          have nnc4 := (hb0.cell (p := ⟨bd, od + kk * 9 + 4, none⟩) lbd).trans c4
          have nnc5 := (hb0.cell (p := ⟨bd, od + kk * 9 + 5, none⟩) lbd).trans c5
          have nnc6 := (hb0.cell (p := ⟨bd, od + kk * 9 + 6, none⟩) lbd).trans c6
          have nnc7 := (hb0.cell (p := ⟨bd, od + kk * 9 + 7, none⟩) lbd).trans c7
          have nnc8 := (hb0.cell (p := ⟨bd, od + kk * 9 + 8, none⟩) lbd).trans c8
          refine hK.out _ _ (Until.cons (fun _ => ⟨nn2, nnc0, nnc1, nnc2, nnc3, nnc4, nnc5, nnc6, nnc7, nnc8⟩) Until.nil) (fun hV => ?_)
          clear hK K hU
          have hU := hV
          clear hV
          try simp only [Act.put, List.getElem_toArray, List.getElem_cons_zero, List.getElem_cons_succ, List.setIfInBounds_toArray, List.set_cons_zero, List.set_cons_succ]
          obtain ⟨d0, d1, d2, d3, d4, d5, d6, d7, d8⟩ := cellsT9 zb
          have f0 := zb.free 0
          have f1 := zb.free 1
          have f2 := zb.free 2
          have f3 := zb.free 3
          have f4 := zb.free 4
          have f5 := zb.free 5
          have f6 := zb.free 6
          have f7 := zb.free 7
          have f8 := zb.free 8
          have ld := zb.lt
          refine AnyU.ready1 (i := 10) (by kernel_rfl) (AnyU.one rfl fun K hK => ?_)
          go_simp
          have hp := pf9 (.int .i64 d.kind) (.string d.name) (.int .i64 d.ty.kind) (.string d.ty.pkg) (.int .i64 d.ty.major) (.string d.ty.mod) (.string d.ty.name) (.slice na7 d.ty.names.length nc7) (.slice sa7 d.ty.subs.length sc7) zb
          have hb := pb9 (.int .i64 d.kind) (.string d.name) (.int .i64 d.ty.kind) (.string d.ty.pkg) (.int .i64 d.ty.major) (.string d.ty.mod) (.string d.ty.name) (.slice na7 d.ty.names.length nc7) (.slice sa7 d.ty.subs.length sc7) hb0 (Nat.le_refl _)
          generalize (((((((((X3.setCell ⟨W10.heap.size, 0, none⟩ (.int .i64 d.kind)).setCell ⟨W10.heap.size, 1, none⟩ (.string d.name)).setCell ⟨W10.heap.size, 2, none⟩ (.int .i64 d.ty.kind)).setCell ⟨W10.heap.size, 3, none⟩ (.string d.ty.pkg)).setCell ⟨W10.heap.size, 4, none⟩ (.int .i64 d.ty.major)).setCell ⟨W10.heap.size, 5, none⟩ (.string d.ty.mod)).setCell ⟨W10.heap.size, 6, none⟩ (.string d.ty.name)).setCell ⟨W10.heap.size, 7, none⟩ (.slice na7 d.ty.names.length nc7)).setCell ⟨W10.heap.size, 8, none⟩ (.slice sa7 d.ty.subs.length sc7)) = Wd at hp hb ⊢
          refine hK.out _ _ (Until.offT (by kernel_rfl)) (fun hV => ?_)
          clear hK K hU
          have hU := hV
          clear hV
          try simp only [Act.put, List.getElem_toArray, List.getElem_cons_zero, List.getElem_cons_succ, List.setIfInBounds_toArray, List.set_cons_zero, List.set_cons_succ]
          refine AnyU.done (by kernel_rfl) ?_
          clear m0 m1 m2 k0 k1 k2 k3 k4 k5 k6 x0 x1 x2 x3 x4 x5 x6 y0 y1 y2 y3 y4 y5 y6 ml kl xl yl
          have D0 := Lib.hid (D0.out.under hb D0.out.lt)
          have D1 := Lib.hid (D1.out.under hb D1.out.lt)
          have D2 := Lib.hid (D2.out.under hb D2.out.lt)
          have D3 := Lib.hid (D3.out.under hb D3.out.lt)
          have HXT := Lib.hid ((HXT.out.under hb).mono hb.size)
          have HYT := Lib.hid ((HYT.out.under hb).mono hb.size)
          have HTD := Lib.hid ((HTD.out.under hb).mono hb.size)
          have BC := Lib.hid (BC.out.trans (hb.mono BC.out.size))
          have D7 := Lib.hid hp
          clear hp hb hb0 zb hzs ld d0 d1 d2 d3 d4 d5 d6 d7 d8 f0 f1 f2 f3 f4 f5 f6 f7 f8 nn2 nnc0 nnc1 nnc2 nnc3 nnc4 nnc5 nnc6 nnc7 nnc8 c0 c1' c2' c3 c4 c5 c6 c7 c8 lbd
          obtain ⟨m0, m1, m2⟩ := cellsT3 D0.out
          have ml := D0.out.lt
          obtain ⟨k0, k1, k2, k3, k4, k5, k6⟩ := cellsT7 D1.out
          have kl := D1.out.lt
          obtain ⟨x0, x1, x2, x3, x4, x5, x6⟩ := cellsT7 D2.out
          have xl := D2.out.lt
          obtain ⟨y0, y1, y2, y3, y4, y5, y6⟩ := cellsT7 D3.out
          have yl := D3.out.lt
          obtain ⟨d0, d1, d2, d3, d4, d5, d6, d7, d8⟩ := cellsT9 D7.out
          have dl := D7.out.lt
          by_cases hd3 : d.kind = 3
          · have hd3b : (d.kind == 3) = true := by simp [hd3]
            have HD3 := Lib.hid hd3
            clear hd3
            go_upto_region 20 with (go_at_call 32; refine (expand_c ⟨m, pkg, j, env⟩ ia ic (some ⟨bd, od, none⟩) dc ea ec _ d.ty _ _ (env_of ((HM.out.under BC.out).mono BC.out.size) ((HE.out.under BC.out).mono BC.out.size) H1.out H3.out HP.out hec ⟨hj1, hj2⟩) HTD.out (Nat.le_refl _)).mono ?_; rintro e wn ⟨c3, z, cs5, rfl, hxi, hxt, hb⟩; have D0 := Lib.hid (D0.out.under hb D0.out.lt); have D1 := Lib.hid (D1.out.under hb D1.out.lt); have D2 := Lib.hid (D2.out.under hb D2.out.lt); have D3 := Lib.hid (D3.out.under hb D3.out.lt); have D7 := Lib.hid (D7.out.under hb D7.out.lt); have HXT := Lib.hid ((HXT.out.under hb).mono hb.size); have HYT := Lib.hid ((HYT.out.under hb).mono hb.size); have HTD := Lib.hid ((HTD.out.under hb).mono hb.size); have BC := Lib.hid (BC.out.trans (hb.mono BC.out.size)); obtain ⟨na5, nc5, sa5, sc5, f5, rfl, -⟩ := hxt.inv; simp only [tyCells]; have HZI := Lib.hid hxi; have HZT := Lib.hid (hxt.mono (M' := (· < wn.heap.size)) fun b hb => hb.2).toC; clear hxi hxt; clear hb; clear m0 m1 m2 k0 k1 k2 k3 k4 k5 k6 x0 x1 x2 x3 x4 x5 x6 y0 y1 y2 y3 y4 y5 y6 d0 d1 d2 d3 d4 d5 d6 d7 d8 ml kl xl yl dl; obtain ⟨m0, m1, m2⟩ := cellsT3 D0.out; have ml := D0.out.lt; obtain ⟨k0, k1, k2, k3, k4, k5, k6⟩ := cellsT7 D1.out; have kl := D1.out.lt; obtain ⟨x0, x1, x2, x3, x4, x5, x6⟩ := cellsT7 D2.out; have xl := D2.out.lt; obtain ⟨y0, y1, y2, y3, y4, y5, y6⟩ := cellsT7 D3.out; have yl := D3.out.lt; obtain ⟨d0, d1, d2, d3, d4, d5, d6, d7, d8⟩ := cellsT9 D7.out; have dl := D7.out.lt)
            clear m0 m1 m2 k0 k1 k2 k3 k4 k5 k6 x0 x1 x2 x3 x4 x5 x6 y0 y1 y2 y3 y4 y5 y6 d0 d1 d2 d3 d4 d5 d6 d7 d8 ml kl xl yl dl
            obtain ⟨bN, hb, hzN⟩ := laidN wn #[.int .i64 z.kind, .string z.pkg, .int .i64 z.major, .string z.mod, .string z.name, .slice na5 z.names.length nc5, .slice sa5 z.subs.length sc5] 29
            generalize (wn.alloc (.cells #[.int .i64 z.kind, .string z.pkg, .int .i64 z.major, .string z.mod, .string z.name, .slice na5 z.names.length nc5, .slice sa5 z.subs.length sc5] 29)) = W20 at bN hb hzN ⊢
            have D0 := Lib.hid (D0.out.under hb D0.out.lt)
            have D1 := Lib.hid (D1.out.under hb D1.out.lt)
            have D2 := Lib.hid (D2.out.under hb D2.out.lt)
            have D3 := Lib.hid (D3.out.under hb D3.out.lt)
            have D7 := Lib.hid (D7.out.under hb D7.out.lt)
            have HXT := Lib.hid ((HXT.out.under hb).mono hb.size)
            have HYT := Lib.hid ((HYT.out.under hb).mono hb.size)
            have HTD := Lib.hid ((HTD.out.under hb).mono hb.size)
            have HZT := Lib.hid ((HZT.out.under hb).mono hb.size)
            have BC := Lib.hid (BC.out.trans (hb.mono BC.out.size))
            have D8 := Lib.hid bN
            clear bN hb hzN
            obtain ⟨m0, m1, m2⟩ := cellsT3 D0.out
            have ml := D0.out.lt
            obtain ⟨k0, k1, k2, k3, k4, k5, k6⟩ := cellsT7 D1.out
            have kl := D1.out.lt
            obtain ⟨x0, x1, x2, x3, x4, x5, x6⟩ := cellsT7 D2.out
            have xl := D2.out.lt
            obtain ⟨y0, y1, y2, y3, y4, y5, y6⟩ := cellsT7 D3.out
            have yl := D3.out.lt
            obtain ⟨d0, d1, d2, d3, d4, d5, d6, d7, d8⟩ := cellsT9 D7.out
            have dl := D7.out.lt
            obtain ⟨z0, z1, z2, z3, z4, z5, z6⟩ := cellsT7 D8.out
            have zl := D8.out.lt
            go_upto_region 21 with (go_at_call 32; refine (expand_c ⟨m, pkg, j, env⟩ ia ic (some ⟨bd, od, none⟩) dc ea ec _ (locT d.name) _ _ (env_of ((HM.out.under BC.out).mono BC.out.size) ((HE.out.under BC.out).mono BC.out.size) H1.out H3.out HP.out hec ⟨hj1, hj2⟩) (loc_at _ _ d.name hfd.name) (Nat.le_refl _)).mono ?_; rintro e wn ⟨c4, v, cs6, rfl, hxi, hxt, hb⟩; have D0 := Lib.hid (D0.out.under hb D0.out.lt); have D1 := Lib.hid (D1.out.under hb D1.out.lt); have D2 := Lib.hid (D2.out.under hb D2.out.lt); have D3 := Lib.hid (D3.out.under hb D3.out.lt); have D7 := Lib.hid (D7.out.under hb D7.out.lt); have D8 := Lib.hid (D8.out.under hb D8.out.lt); have HXT := Lib.hid ((HXT.out.under hb).mono hb.size); have HYT := Lib.hid ((HYT.out.under hb).mono hb.size); have HTD := Lib.hid ((HTD.out.under hb).mono hb.size); have HZT := Lib.hid ((HZT.out.under hb).mono hb.size); have BC := Lib.hid (BC.out.trans (hb.mono BC.out.size)); obtain ⟨na6, nc6, sa6, sc6, f6, rfl, -⟩ := hxt.inv; simp only [tyCells]; have HVI := Lib.hid hxi; have HVT := Lib.hid (hxt.mono (M' := (· < wn.heap.size)) fun b hb => hb.2).toC; clear hxi hxt; clear hb; clear m0 m1 m2 k0 k1 k2 k3 k4 k5 k6 x0 x1 x2 x3 x4 x5 x6 y0 y1 y2 y3 y4 y5 y6 d0 d1 d2 d3 d4 d5 d6 d7 d8 z0 z1 z2 z3 z4 z5 z6 ml kl xl yl dl zl; obtain ⟨m0, m1, m2⟩ := cellsT3 D0.out; have ml := D0.out.lt; obtain ⟨k0, k1, k2, k3, k4, k5, k6⟩ := cellsT7 D1.out; have kl := D1.out.lt; obtain ⟨x0, x1, x2, x3, x4, x5, x6⟩ := cellsT7 D2.out; have xl := D2.out.lt; obtain ⟨y0, y1, y2, y3, y4, y5, y6⟩ := cellsT7 D3.out; have yl := D3.out.lt; obtain ⟨d0, d1, d2, d3, d4, d5, d6, d7, d8⟩ := cellsT9 D7.out; have dl := D7.out.lt; obtain ⟨z0, z1, z2, z3, z4, z5, z6⟩ := cellsT7 D8.out; have zl := D8.out.lt)
            clear m0 m1 m2 k0 k1 k2 k3 k4 k5 k6 x0 x1 x2 x3 x4 x5 x6 y0 y1 y2 y3 y4 y5 y6 d0 d1 d2 d3 d4 d5 d6 d7 d8 z0 z1 z2 z3 z4 z5 z6 ml kl xl yl dl zl
            obtain ⟨bN, hb, hzN⟩ := laidN wn #[.int .i64 v.kind, .string v.pkg, .int .i64 v.major, .string v.mod, .string v.name, .slice na6 v.names.length nc6, .slice sa6 v.subs.length sc6] 29
            generalize (wn.alloc (.cells #[.int .i64 v.kind, .string v.pkg, .int .i64 v.major, .string v.mod, .string v.name, .slice na6 v.names.length nc6, .slice sa6 v.subs.length sc6] 29)) = W21 at bN hb hzN ⊢
            have D0 := Lib.hid (D0.out.under hb D0.out.lt)
            have D1 := Lib.hid (D1.out.under hb D1.out.lt)
            have D2 := Lib.hid (D2.out.under hb D2.out.lt)
            have D3 := Lib.hid (D3.out.under hb D3.out.lt)
            have D7 := Lib.hid (D7.out.under hb D7.out.lt)
            have D8 := Lib.hid (D8.out.under hb D8.out.lt)
            have HXT := Lib.hid ((HXT.out.under hb).mono hb.size)
            have HYT := Lib.hid ((HYT.out.under hb).mono hb.size)
            have HTD := Lib.hid ((HTD.out.under hb).mono hb.size)
            have HZT := Lib.hid ((HZT.out.under hb).mono hb.size)
            have HVT := Lib.hid ((HVT.out.under hb).mono hb.size)
            have BC := Lib.hid (BC.out.trans (hb.mono BC.out.size))
            have D9 := Lib.hid bN
            clear bN hb hzN
            obtain ⟨m0, m1, m2⟩ := cellsT3 D0.out
            have ml := D0.out.lt
            obtain ⟨k0, k1, k2, k3, k4, k5, k6⟩ := cellsT7 D1.out
            have kl := D1.out.lt
            obtain ⟨x0, x1, x2, x3, x4, x5, x6⟩ := cellsT7 D2.out
            have xl := D2.out.lt
            obtain ⟨y0, y1, y2, y3, y4, y5, y6⟩ := cellsT7 D3.out
            have yl := D3.out.lt
            obtain ⟨d0, d1, d2, d3, d4, d5, d6, d7, d8⟩ := cellsT9 D7.out
            have dl := D7.out.lt
            obtain ⟨z0, z1, z2, z3, z4, z5, z6⟩ := cellsT7 D8.out
            have zl := D8.out.lt
            obtain ⟨v0, v1, v2, v3, v4, v5, v6⟩ := cellsT7 D9.out
            have vl := D9.out.lt
            have hcv : c3 = c4 ∧ z = v := by
              have h1 : ExpIs ⟨m, pkg, j, env⟩ m.decls[kk].ty c3 z := by rw [HDD.out]; exact HZI.out
              have h2 : ExpIs ⟨m, pkg, j, env⟩ (locT m.decls[kk].name) c4 v := by rw [HDD.out]; exact HVI.out
              exact ExpIs.alias (E := ⟨m, pkg, j, env⟩) hkn (by show m.decls[kk].kind = 3; rw [HDD.out]; exact HD3.out) HN.out h1 h2
            obtain ⟨rfl, rfl⟩ := hcv
            have hcodes := HZI.out.codes
            have HCD := Lib.hid hcodes
            clear hcodes
            go_wp2_with (first
              | (go_at_call 34; refine (code_any c3 HCD.out _).mono ?_; rintro e wn ⟨rfl, hb⟩; have D0 := Lib.hid (D0.out.under hb D0.out.lt); have D1 := Lib.hid (D1.out.under hb D1.out.lt); have D2 := Lib.hid (D2.out.under hb D2.out.lt); have D3 := Lib.hid (D3.out.under hb D3.out.lt); have D7 := Lib.hid (D7.out.under hb D7.out.lt); have D8 := Lib.hid (D8.out.under hb D8.out.lt); have D9 := Lib.hid (D9.out.under hb D9.out.lt); have HXT := Lib.hid ((HXT.out.under hb).mono hb.size); have HYT := Lib.hid ((HYT.out.under hb).mono hb.size); have HTD := Lib.hid ((HTD.out.under hb).mono hb.size); have HZT := Lib.hid ((HZT.out.under hb).mono hb.size); have HVT := Lib.hid ((HVT.out.under hb).mono hb.size); have BC := Lib.hid (BC.out.trans (hb.mono BC.out.size)); clear hb; clear m0 m1 m2 k0 k1 k2 k3 k4 k5 k6 x0 x1 x2 x3 x4 x5 x6 y0 y1 y2 y3 y4 y5 y6 d0 d1 d2 d3 d4 d5 d6 d7 d8 z0 z1 z2 z3 z4 z5 z6 v0 v1 v2 v3 v4 v5 v6 ml kl xl yl dl zl vl; obtain ⟨m0, m1, m2⟩ := cellsT3 D0.out; have ml := D0.out.lt; obtain ⟨k0, k1, k2, k3, k4, k5, k6⟩ := cellsT7 D1.out; have kl := D1.out.lt; obtain ⟨x0, x1, x2, x3, x4, x5, x6⟩ := cellsT7 D2.out; have xl := D2.out.lt; obtain ⟨y0, y1, y2, y3, y4, y5, y6⟩ := cellsT7 D3.out; have yl := D3.out.lt; obtain ⟨d0, d1, d2, d3, d4, d5, d6, d7, d8⟩ := cellsT9 D7.out; have dl := D7.out.lt; obtain ⟨z0, z1, z2, z3, z4, z5, z6⟩ := cellsT7 D8.out; have zl := D8.out.lt; obtain ⟨v0, v1, v2, v3, v4, v5, v6⟩ := cellsT7 D9.out; have vl := D9.out.lt)
              | (go_at_call 31; refine (same_yes rfl HZT.out HVT.out (Nat.le_refl _)).mono ?_; rintro e wn ⟨rfl, hb⟩; have D0 := Lib.hid (D0.out.under hb D0.out.lt); have D1 := Lib.hid (D1.out.under hb D1.out.lt); have D2 := Lib.hid (D2.out.under hb D2.out.lt); have D3 := Lib.hid (D3.out.under hb D3.out.lt); have D7 := Lib.hid (D7.out.under hb D7.out.lt); have D8 := Lib.hid (D8.out.under hb D8.out.lt); have D9 := Lib.hid (D9.out.under hb D9.out.lt); have HXT := Lib.hid ((HXT.out.under hb).mono hb.size); have HYT := Lib.hid ((HYT.out.under hb).mono hb.size); have HTD := Lib.hid ((HTD.out.under hb).mono hb.size); have HZT := Lib.hid ((HZT.out.under hb).mono hb.size); have HVT := Lib.hid ((HVT.out.under hb).mono hb.size); have BC := Lib.hid (BC.out.trans (hb.mono BC.out.size)); clear hb; clear m0 m1 m2 k0 k1 k2 k3 k4 k5 k6 x0 x1 x2 x3 x4 x5 x6 y0 y1 y2 y3 y4 y5 y6 d0 d1 d2 d3 d4 d5 d6 d7 d8 z0 z1 z2 z3 z4 z5 z6 v0 v1 v2 v3 v4 v5 v6 ml kl xl yl dl zl vl; obtain ⟨m0, m1, m2⟩ := cellsT3 D0.out; have ml := D0.out.lt; obtain ⟨k0, k1, k2, k3, k4, k5, k6⟩ := cellsT7 D1.out; have kl := D1.out.lt; obtain ⟨x0, x1, x2, x3, x4, x5, x6⟩ := cellsT7 D2.out; have xl := D2.out.lt; obtain ⟨y0, y1, y2, y3, y4, y5, y6⟩ := cellsT7 D3.out; have yl := D3.out.lt; obtain ⟨d0, d1, d2, d3, d4, d5, d6, d7, d8⟩ := cellsT9 D7.out; have dl := D7.out.lt; obtain ⟨z0, z1, z2, z3, z4, z5, z6⟩ := cellsT7 D8.out; have zl := D8.out.lt; obtain ⟨v0, v1, v2, v3, v4, v5, v6⟩ := cellsT7 D9.out; have vl := D9.out.lt))
            go_ret
            exact ⟨rfl, BC.out⟩
          · have hd3b : (d.kind == 3) = false := by simp [hd3]
            clear hd3
            go_wp2_with fail
            go_ret
            exact ⟨rfl, BC.out⟩
      · go_wp2_with fail
        go_ret
        exact ⟨rfl, BC.out⟩
    · simp only [codeV_ne hc1]
      have HC1 := Lib.hid hc1
      clear hc1
      go_upto_region 12 with fail
      rcases err_kinds HEV.out with ⟨hn, rfl⟩ | ⟨hn, T, p, rfl⟩
      · have HN := Lib.hid hn
        clear hn
        by_cases h0 : m.decls.length = 0
        · have h0b : ((m.decls.length : Int) == 0) = true := by rw [h0]; rfl
          clear h0
          go_wp2_with fail
          go_ret
          exact ⟨rfl, BC.out⟩
        have h0b : ((m.decls.length : Int) == 0) = false := by simpa using h0
        have hn0 : (0 : Int) < (m.decls.length : Int) := by omega
        have hnne : (m.decls.length : Int) ≠ 0 := by omega
        go_upto_if 104 with fail
        go_cut [5] (fun v wx => ∃ a : Int, v = .int .i64 a ∧ 0 ≤ a ∧ a ≤ 9223372036854775807 ∧ wx = W10)
        case first =>
          by_cases hneg : at_ < 0
          · go_wp2_with fail
            go_meet
            exact ⟨-(at_ + 1), by go_num, by omega, by omega, rfl⟩
          · go_wp2_with fail
            go_meet
            exact ⟨at_, rfl, by omega, by omega, rfl⟩
        case rest =>
          obtain ⟨a, rfl, ha1, ha2, hww⟩ := hcut
          obtain rfl := hww.symm
          clear hww
          have hk1 : 0 ≤ a % (m.decls.length : Int) := Int.emod_nonneg _ hnne
          have hk2 : a % (m.decls.length : Int) < m.decls.length := Int.emod_lt_of_pos _ hn0
          obtain ⟨kk, hkk⟩ : ∃ kk : Nat, a % (m.decls.length : Int) = (kk : Int) := ⟨(a % (m.decls.length : Int)).toNat, by omega⟩
          have hkI : (kk : Int) < (m.decls.length : Int) := by omega
          have hk0 : (0 : Int) ≤ (kk : Int) := by omega
          have hkn : kk < m.decls.length := by omega
          obtain ⟨d, hd⟩ : ∃ d, m.decls[kk] = d := ⟨_, rfl⟩
          obtain ⟨hfd, bd, od, na7, nc7, sa7, sc7, hda, hbd, hty, c0, c1', c2', c3, c4, c5, c6, c7, c8⟩ := ((HM.out.under BC.out).mono BC.out.size).decls.elem hkn hd
          obtain rfl := hda
          have HTD := Lib.hid hty
          have HDD := Lib.hid hd
          have hmod : (Int.tmod a (m.decls.length : Int)) = (kk : Int) := by rw [Int.tmod_eq_emod_of_nonneg ha1, hkk]
          clear hk1 hk2 hty hd
          have hwk : IntKind.i64.wrap ((kk : Nat) : Int) = (kk : Int) := IntWalk.i64_in _ (by omega)
          have lbd : bd < W10.heap.size := by omega
          go_upto_region 16 with fail
          refine wp_region_until [(10, fun w' => w'.cell? ⟨w.heap.size, 2, none⟩ = some (.slice (some ⟨bd, od, none⟩) m.decls.length dc) ∧ w'.cell? ⟨bd, od + kk * 9, none⟩ = some (.int .i64 d.kind) ∧ w'.cell? ⟨bd, od + kk * 9 + 1, none⟩ = some (.string d.name) ∧ w'.cell? ⟨bd, od + kk * 9 + 2, none⟩ = some (.int .i64 d.ty.kind) ∧ w'.cell? ⟨bd, od + kk * 9 + 3, none⟩ = some (.string d.ty.pkg) ∧ w'.cell? ⟨bd, od + kk * 9 + 4, none⟩ = some (.int .i64 d.ty.major) ∧ w'.cell? ⟨bd, od + kk * 9 + 5, none⟩ = some (.string d.ty.mod) ∧ w'.cell? ⟨bd, od + kk * 9 + 6, none⟩ = some (.string d.ty.name) ∧ w'.cell? ⟨bd, od + kk * 9 + 7, none⟩ = some (.slice na7 d.ty.names.length nc7) ∧ w'.cell? ⟨bd, od + kk * 9 + 8, none⟩ = some (.slice sa7 d.ty.subs.length sc7))] (by kernel_rfl) (Until.cons (fun _ => ⟨m2, c0, c1', c2', c3, c4, c5, c6, c7, c8⟩) Until.nil) (fun hU => ?_)
          refine AnyU.take (i := 0) (v := ?_) rfl (by kernel_rfl) (by kernel_rfl) (by kernel_rfl) (fun _ _ _ h => h) (by kernel_rfl) (by assumption) (by rfl) ?_ (fun hV => ?_)
          rotate_left 1
          · (intro wq; go_simp; try with_reducible rfl)
          clear hU
          have hU := hV
          clear hV
          try simp only [Act.put, List.getElem_toArray, List.getElem_cons_zero, List.getElem_cons_succ, List.setIfInBounds_toArray, List.set_cons_zero, List.set_cons_succ]
          refine AnyU.loadc (i := 1) (d := 10) [7, 8, 10] (Si := fun w' => w'.cell? ⟨w.heap.size, 2, none⟩ = some (.slice (some ⟨bd, od, none⟩) m.decls.length dc) ∧ w'.cell? ⟨bd, od + kk * 9, none⟩ = some (.int .i64 d.kind) ∧ w'.cell? ⟨bd, od + kk * 9 + 1, none⟩ = some (.string d.name) ∧ w'.cell? ⟨bd, od + kk * 9 + 2, none⟩ = some (.int .i64 d.ty.kind) ∧ w'.cell? ⟨bd, od + kk * 9 + 3, none⟩ = some (.string d.ty.pkg) ∧ w'.cell? ⟨bd, od + kk * 9 + 4, none⟩ = some (.int .i64 d.ty.major) ∧ w'.cell? ⟨bd, od + kk * 9 + 5, none⟩ = some (.string d.ty.mod) ∧ w'.cell? ⟨bd, od + kk * 9 + 6, none⟩ = some (.string d.ty.name) ∧ w'.cell? ⟨bd, od + kk * 9 + 7, none⟩ = some (.slice na7 d.ty.names.length nc7) ∧ w'.cell? ⟨bd, od + kk * 9 + 8, none⟩ = some (.slice sa7 d.ty.subs.length sc7)) (v := ?_) rfl (by kernel_rfl) (by kernel_rfl) (by kernel_rfl) (fun _ _ _ h => h) (by kernel_rfl) (by assumption) (by kernel_rfl) rfl (by simp) (by rfl) ?_ (fun hV => ?_)
          rotate_left 1
          · (intro wq hq; obtain ⟨u, -⟩ := hq; go_simp; try with_reducible rfl)
          clear hU
          have hU := hV
          clear hV
          try simp only [Act.put, List.getElem_toArray, List.getElem_cons_zero, List.getElem_cons_succ, List.setIfInBounds_toArray, List.set_cons_zero, List.set_cons_succ]
          refine AnyU.take (i := 2) (v := ?_) rfl (by kernel_rfl) (by kernel_rfl) (by kernel_rfl) (fun _ _ _ h => h) (by kernel_rfl) (by assumption) (by rfl) ?_ (fun hV => ?_)
          rotate_left 1
          · (intro wq; go_simp; try with_reducible rfl)
          clear hU
          have hU := hV
          clear hV
          try simp only [Act.put, List.getElem_toArray, List.getElem_cons_zero, List.getElem_cons_succ, List.setIfInBounds_toArray, List.set_cons_zero, List.set_cons_succ]
          refine AnyU.take (i := 3) (v := ?_) rfl (by kernel_rfl) (by kernel_rfl) (by kernel_rfl) (fun _ _ _ h => h) (by kernel_rfl) (by assumption) (by rfl) ?_ (fun hV => ?_)
          rotate_left 1
          · (intro wq; go_simp; try with_reducible rfl)
          clear hU
          have hU := hV
          clear hV
          try simp only [Act.put, List.getElem_toArray, List.getElem_cons_zero, List.getElem_cons_succ, List.setIfInBounds_toArray, List.set_cons_zero, List.set_cons_succ]
          refine AnyU.loadc (i := 4) (d := 10) [5, 6, 7, 8, 10] (Si := fun w' => w'.cell? ⟨w.heap.size, 2, none⟩ = some (.slice (some ⟨bd, od, none⟩) m.decls.length dc) ∧ w'.cell? ⟨bd, od + kk * 9, none⟩ = some (.int .i64 d.kind) ∧ w'.cell? ⟨bd, od + kk * 9 + 1, none⟩ = some (.string d.name) ∧ w'.cell? ⟨bd, od + kk * 9 + 2, none⟩ = some (.int .i64 d.ty.kind) ∧ w'.cell? ⟨bd, od + kk * 9 + 3, none⟩ = some (.string d.ty.pkg) ∧ w'.cell? ⟨bd, od + kk * 9 + 4, none⟩ = some (.int .i64 d.ty.major) ∧ w'.cell? ⟨bd, od + kk * 9 + 5, none⟩ = some (.string d.ty.mod) ∧ w'.cell? ⟨bd, od + kk * 9 + 6, none⟩ = some (.string d.ty.name) ∧ w'.cell? ⟨bd, od + kk * 9 + 7, none⟩ = some (.slice na7 d.ty.names.length nc7) ∧ w'.cell? ⟨bd, od + kk * 9 + 8, none⟩ = some (.slice sa7 d.ty.subs.length sc7)) (v := ?_) rfl (by kernel_rfl) (by kernel_rfl) (by kernel_rfl) (fun _ _ _ h => h) (by kernel_rfl) (by assumption) (by kernel_rfl) rfl (by simp) (by rfl) ?_ (fun hV => ?_)
          rotate_left 1
          · (intro wq hq; obtain ⟨u, -⟩ := hq; go_simp; try with_reducible rfl)
          clear hU
          have hU := hV
          clear hV
          try simp only [Act.put, List.getElem_toArray, List.getElem_cons_zero, List.getElem_cons_succ, List.setIfInBounds_toArray, List.set_cons_zero, List.set_cons_succ]
          refine AnyU.take (i := 5) (v := ?_) rfl (by kernel_rfl) (by kernel_rfl) (by kernel_rfl) (fun _ _ _ h => h) (by kernel_rfl) (by assumption) (by rfl) ?_ (fun hV => ?_)
          rotate_left 1
          · (intro wq; go_simp; try with_reducible rfl)
          clear hU
          have hU := hV
          clear hV
          try simp only [Act.put, List.getElem_toArray, List.getElem_cons_zero, List.getElem_cons_succ, List.setIfInBounds_toArray, List.set_cons_zero, List.set_cons_succ]
          refine AnyU.take (i := 6) (v := ?_) rfl (by kernel_rfl) (by kernel_rfl) (by kernel_rfl) (fun _ _ _ h => h) (by kernel_rfl) (by assumption) (by rfl) ?_ (fun hV => ?_)
          rotate_left 1
          · (intro wq; go_simp; try with_reducible rfl)
          clear hU
          have hU := hV
          clear hV
          try simp only [Act.put, List.getElem_toArray, List.getElem_cons_zero, List.getElem_cons_succ, List.setIfInBounds_toArray, List.set_cons_zero, List.set_cons_succ]
          refine AnyU.take (i := 7) (v := ?_) rfl (by kernel_rfl) (by kernel_rfl) (by kernel_rfl) (fun _ _ _ h => h) (by kernel_rfl) (by assumption) (by rfl) ?_ (fun hV => ?_)
          rotate_left 1
          · (intro wq; go_simp; try with_reducible rfl)
          clear hU
          have hU := hV
          clear hV
          try simp only [Act.put, List.getElem_toArray, List.getElem_cons_zero, List.getElem_cons_succ, List.setIfInBounds_toArray, List.set_cons_zero, List.set_cons_succ]
          refine AnyU.loadc (i := 8) (d := 10) [10] (Si := fun w' => w'.cell? ⟨w.heap.size, 2, none⟩ = some (.slice (some ⟨bd, od, none⟩) m.decls.length dc) ∧ w'.cell? ⟨bd, od + kk * 9, none⟩ = some (.int .i64 d.kind) ∧ w'.cell? ⟨bd, od + kk * 9 + 1, none⟩ = some (.string d.name) ∧ w'.cell? ⟨bd, od + kk * 9 + 2, none⟩ = some (.int .i64 d.ty.kind) ∧ w'.cell? ⟨bd, od + kk * 9 + 3, none⟩ = some (.string d.ty.pkg) ∧ w'.cell? ⟨bd, od + kk * 9 + 4, none⟩ = some (.int .i64 d.ty.major) ∧ w'.cell? ⟨bd, od + kk * 9 + 5, none⟩ = some (.string d.ty.mod) ∧ w'.cell? ⟨bd, od + kk * 9 + 6, none⟩ = some (.string d.ty.name) ∧ w'.cell? ⟨bd, od + kk * 9 + 7, none⟩ = some (.slice na7 d.ty.names.length nc7) ∧ w'.cell? ⟨bd, od + kk * 9 + 8, none⟩ = some (.slice sa7 d.ty.subs.length sc7)) (v := ?_) rfl (by kernel_rfl) (by kernel_rfl) (by kernel_rfl) (fun _ _ _ h => h) (by kernel_rfl) (by assumption) (by kernel_rfl) rfl (by simp) (by rfl) ?_ (fun hV => ?_)
          rotate_left 1
          · (intro wq hq; obtain ⟨-, u0, u1, u2, u3, u4, u5, u6, u7, u8⟩ := hq; go_simp; try with_reducible rfl)
          clear hU
          have hU := hV
          clear hV
          try simp only [Act.put, List.getElem_toArray, List.getElem_cons_zero, List.getElem_cons_succ, List.setIfInBounds_toArray, List.set_cons_zero, List.set_cons_succ]
          clear hmod hwk
          refine AnyU.ready1 (i := 9) (by kernel_rfl) (AnyU.one rfl fun K hK => ?_)
          go_simp
          obtain ⟨zb, hb0, hzs⟩ := laidD W10 #[.int .i64 0, .string { data := #[] }, .int .i64 0, .string { data := #[] }, .int .i64 0, .string { data := #[] }, .string { data := #[] }, .slice none 0 0, .slice none 0 0] 45
          generalize (W10.alloc (.cells #[.int .i64 0, .string { data := #[] }, .int .i64 0, .string { data := #[] }, .int .i64 0, .string { data := #[] }, .string { data := #[] }, .slice none 0 0, .slice none 0 0] 45)).drew = X3 at zb hb0 hzs ⊢
          have nn2 := (hb0.cell (p := ⟨w.heap.size, 2, none⟩) ml).trans m2
          have nnc0 := (hb0.cell (p := ⟨bd, od + kk * 9, none⟩) lbd).trans c0
          have nnc1 := (hb0.cell (p := ⟨bd, od + kk * 9 + 1, none⟩) lbd).trans c1'
          have nnc2 := (hb0.cell (p := ⟨bd, od + kk * 9 + 2, none⟩) lbd).trans c2'
          have nnc3 := (hb0.cell (p := ⟨bd, od + kk * 9 + 3, none⟩) lbd).trans c3
          have nnc4 := (hb0.cell (p := ⟨bd, od + kk * 9 + 4, none⟩) lbd).trans c4
          have nnc5 := (hb0.cell (p := ⟨bd, od + kk * 9 + 5, none⟩) lbd).trans c5
          have nnc6 := (hb0.cell (p := ⟨bd, od + kk * 9 + 6, none⟩) lbd).trans c6
          have nnc7 := (hb0.cell (p := ⟨bd, od + kk * 9 + 7, none⟩) lbd).trans c7
          have nnc8 := (hb0.cell (p := ⟨bd, od + kk * 9 + 8, none⟩) lbd).trans c8
          refine hK.out _ _ (Until.cons (fun _ => ⟨nn2, nnc0, nnc1, nnc2, nnc3, nnc4, nnc5, nnc6, nnc7, nnc8⟩) Until.nil) (fun hV => ?_)
          clear hK K hU
          have hU := hV
          clear hV
          try simp only [Act.put, List.getElem_toArray, List.getElem_cons_zero, List.getElem_cons_succ, List.setIfInBounds_toArray, List.set_cons_zero, List.set_cons_succ]
          obtain ⟨d0, d1, d2, d3, d4, d5, d6, d7, d8⟩ := cellsT9 zb
          have f0 := zb.free 0
          have f1 := zb.free 1
          have f2 := zb.free 2
          have f3 := zb.free 3
          have f4 := zb.free 4
          have f5 := zb.free 5
          have f6 := zb.free 6
          have f7 := zb.free 7
          have f8 := zb.free 8
          have ld := zb.lt
          refine AnyU.ready1 (i := 10) (by kernel_rfl) (AnyU.one rfl fun K hK => ?_)
          go_simp
          have hp := pf9 (.int .i64 d.kind) (.string d.name) (.int .i64 d.ty.kind) (.string d.ty.pkg) (.int .i64 d.ty.major) (.string d.ty.mod) (.string d.ty.name) (.slice na7 d.ty.names.length nc7) (.slice sa7 d.ty.subs.length sc7) zb
          have hb := pb9 (.int .i64 d.kind) (.string d.name) (.int .i64 d.ty.kind) (.string d.ty.pkg) (.int .i64 d.ty.major) (.string d.ty.mod) (.string d.ty.name) (.slice na7 d.ty.names.length nc7) (.slice sa7 d.ty.subs.length sc7) hb0 (Nat.le_refl _)
          generalize (((((((((X3.setCell ⟨W10.heap.size, 0, none⟩ (.int .i64 d.kind)).setCell ⟨W10.heap.size, 1, none⟩ (.string d.name)).setCell ⟨W10.heap.size, 2, none⟩ (.int .i64 d.ty.kind)).setCell ⟨W10.heap.size, 3, none⟩ (.string d.ty.pkg)).setCell ⟨W10.heap.size, 4, none⟩ (.int .i64 d.ty.major)).setCell ⟨W10.heap.size, 5, none⟩ (.string d.ty.mod)).setCell ⟨W10.heap.size, 6, none⟩ (.string d.ty.name)).setCell ⟨W10.heap.size, 7, none⟩ (.slice na7 d.ty.names.length nc7)).setCell ⟨W10.heap.size, 8, none⟩ (.slice sa7 d.ty.subs.length sc7)) = Wd at hp hb ⊢
          refine hK.out _ _ (Until.offT (by kernel_rfl)) (fun hV => ?_)
          clear hK K hU
          have hU := hV
          clear hV
          try simp only [Act.put, List.getElem_toArray, List.getElem_cons_zero, List.getElem_cons_succ, List.setIfInBounds_toArray, List.set_cons_zero, List.set_cons_succ]
          refine AnyU.done (by kernel_rfl) ?_
          clear m0 m1 m2 k0 k1 k2 k3 k4 k5 k6 x0 x1 x2 x3 x4 x5 x6 y0 y1 y2 y3 y4 y5 y6 ml kl xl yl
          have D0 := Lib.hid (D0.out.under hb D0.out.lt)
          have D1 := Lib.hid (D1.out.under hb D1.out.lt)
          have D2 := Lib.hid (D2.out.under hb D2.out.lt)
          have D3 := Lib.hid (D3.out.under hb D3.out.lt)
          have HXT := Lib.hid ((HXT.out.under hb).mono hb.size)
          have HYT := Lib.hid ((HYT.out.under hb).mono hb.size)
          have HTD := Lib.hid ((HTD.out.under hb).mono hb.size)
          have BC := Lib.hid (BC.out.trans (hb.mono BC.out.size))
          have D7 := Lib.hid hp
          clear hp hb hb0 zb hzs ld d0 d1 d2 d3 d4 d5 d6 d7 d8 f0 f1 f2 f3 f4 f5 f6 f7 f8 nn2 nnc0 nnc1 nnc2 nnc3 nnc4 nnc5 nnc6 nnc7 nnc8 c0 c1' c2' c3 c4 c5 c6 c7 c8 lbd
          obtain ⟨m0, m1, m2⟩ := cellsT3 D0.out
          have ml := D0.out.lt
          obtain ⟨k0, k1, k2, k3, k4, k5, k6⟩ := cellsT7 D1.out
          have kl := D1.out.lt
          obtain ⟨x0, x1, x2, x3, x4, x5, x6⟩ := cellsT7 D2.out
          have xl := D2.out.lt
          obtain ⟨y0, y1, y2, y3, y4, y5, y6⟩ := cellsT7 D3.out
          have yl := D3.out.lt
          obtain ⟨d0, d1, d2, d3, d4, d5, d6, d7, d8⟩ := cellsT9 D7.out
          have dl := D7.out.lt
          by_cases hd3 : d.kind = 3
          · have hd3b : (d.kind == 3) = true := by simp [hd3]
            have HD3 := Lib.hid hd3
            clear hd3
            go_upto_region 20 with (go_at_call 32; refine (expand_c ⟨m, pkg, j, env⟩ ia ic (some ⟨bd, od, none⟩) dc ea ec _ d.ty _ _ (env_of ((HM.out.under BC.out).mono BC.out.size) ((HE.out.under BC.out).mono BC.out.size) H1.out H3.out HP.out hec ⟨hj1, hj2⟩) HTD.out (Nat.le_refl _)).mono ?_; rintro e wn ⟨c3, z, cs5, rfl, hxi, hxt, hb⟩; have D0 := Lib.hid (D0.out.under hb D0.out.lt); have D1 := Lib.hid (D1.out.under hb D1.out.lt); have D2 := Lib.hid (D2.out.under hb D2.out.lt); have D3 := Lib.hid (D3.out.under hb D3.out.lt); have D7 := Lib.hid (D7.out.under hb D7.out.lt); have HXT := Lib.hid ((HXT.out.under hb).mono hb.size); have HYT := Lib.hid ((HYT.out.under hb).mono hb.size); have HTD := Lib.hid ((HTD.out.under hb).mono hb.size); have BC := Lib.hid (BC.out.trans (hb.mono BC.out.size)); obtain ⟨na5, nc5, sa5, sc5, f5, rfl, -⟩ := hxt.inv; simp only [tyCells]; have HZI := Lib.hid hxi; have HZT := Lib.hid (hxt.mono (M' := (· < wn.heap.size)) fun b hb => hb.2).toC; clear hxi hxt; clear hb; clear m0 m1 m2 k0 k1 k2 k3 k4 k5 k6 x0 x1 x2 x3 x4 x5 x6 y0 y1 y2 y3 y4 y5 y6 d0 d1 d2 d3 d4 d5 d6 d7 d8 ml kl xl yl dl; obtain ⟨m0, m1, m2⟩ := cellsT3 D0.out; have ml := D0.out.lt; obtain ⟨k0, k1, k2, k3, k4, k5, k6⟩ := cellsT7 D1.out; have kl := D1.out.lt; obtain ⟨x0, x1, x2, x3, x4, x5, x6⟩ := cellsT7 D2.out; have xl := D2.out.lt; obtain ⟨y0, y1, y2, y3, y4, y5, y6⟩ := cellsT7 D3.out; have yl := D3.out.lt; obtain ⟨d0, d1, d2, d3, d4, d5, d6, d7, d8⟩ := cellsT9 D7.out; have dl := D7.out.lt)
            clear m0 m1 m2 k0 k1 k2 k3 k4 k5 k6 x0 x1 x2 x3 x4 x5 x6 y0 y1 y2 y3 y4 y5 y6 d0 d1 d2 d3 d4 d5 d6 d7 d8 ml kl xl yl dl
            obtain ⟨bN, hb, hzN⟩ := laidN wn #[.int .i64 z.kind, .string z.pkg, .int .i64 z.major, .string z.mod, .string z.name, .slice na5 z.names.length nc5, .slice sa5 z.subs.length sc5] 29
            generalize (wn.alloc (.cells #[.int .i64 z.kind, .string z.pkg, .int .i64 z.major, .string z.mod, .string z.name, .slice na5 z.names.length nc5, .slice sa5 z.subs.length sc5] 29)) = W20 at bN hb hzN ⊢
            have D0 := Lib.hid (D0.out.under hb D0.out.lt)
            have D1 := Lib.hid (D1.out.under hb D1.out.lt)
            have D2 := Lib.hid (D2.out.under hb D2.out.lt)
            have D3 := Lib.hid (D3.out.under hb D3.out.lt)
            have D7 := Lib.hid (D7.out.under hb D7.out.lt)
            have HXT := Lib.hid ((HXT.out.under hb).mono hb.size)
            have HYT := Lib.hid ((HYT.out.under hb).mono hb.size)
            have HTD := Lib.hid ((HTD.out.under hb).mono hb.size)
            have HZT := Lib.hid ((HZT.out.under hb).mono hb.size)
            have BC := Lib.hid (BC.out.trans (hb.mono BC.out.size))
            have D8 := Lib.hid bN
            clear bN hb hzN
            obtain ⟨m0, m1, m2⟩ := cellsT3 D0.out
            have ml := D0.out.lt
            obtain ⟨k0, k1, k2, k3, k4, k5, k6⟩ := cellsT7 D1.out
            have kl := D1.out.lt
            obtain ⟨x0, x1, x2, x3, x4, x5, x6⟩ := cellsT7 D2.out
            have xl := D2.out.lt
            obtain ⟨y0, y1, y2, y3, y4, y5, y6⟩ := cellsT7 D3.out
            have yl := D3.out.lt
            obtain ⟨d0, d1, d2, d3, d4, d5, d6, d7, d8⟩ := cellsT9 D7.out
            have dl := D7.out.lt
            obtain ⟨z0, z1, z2, z3, z4, z5, z6⟩ := cellsT7 D8.out
            have zl := D8.out.lt
            go_upto_region 21 with (go_at_call 32; refine (expand_c ⟨m, pkg, j, env⟩ ia ic (some ⟨bd, od, none⟩) dc ea ec _ (locT d.name) _ _ (env_of ((HM.out.under BC.out).mono BC.out.size) ((HE.out.under BC.out).mono BC.out.size) H1.out H3.out HP.out hec ⟨hj1, hj2⟩) (loc_at _ _ d.name hfd.name) (Nat.le_refl _)).mono ?_; rintro e wn ⟨c4, v, cs6, rfl, hxi, hxt, hb⟩; have D0 := Lib.hid (D0.out.under hb D0.out.lt); have D1 := Lib.hid (D1.out.under hb D1.out.lt); have D2 := Lib.hid (D2.out.under hb D2.out.lt); have D3 := Lib.hid (D3.out.under hb D3.out.lt); have D7 := Lib.hid (D7.out.under hb D7.out.lt); have D8 := Lib.hid (D8.out.under hb D8.out.lt); have HXT := Lib.hid ((HXT.out.under hb).mono hb.size); have HYT := Lib.hid ((HYT.out.under hb).mono hb.size); have HTD := Lib.hid ((HTD.out.under hb).mono hb.size); have HZT := Lib.hid ((HZT.out.under hb).mono hb.size); have BC := Lib.hid (BC.out.trans (hb.mono BC.out.size)); obtain ⟨na6, nc6, sa6, sc6, f6, rfl, -⟩ := hxt.inv; simp only [tyCells]; have HVI := Lib.hid hxi; have HVT := Lib.hid (hxt.mono (M' := (· < wn.heap.size)) fun b hb => hb.2).toC; clear hxi hxt; clear hb; clear m0 m1 m2 k0 k1 k2 k3 k4 k5 k6 x0 x1 x2 x3 x4 x5 x6 y0 y1 y2 y3 y4 y5 y6 d0 d1 d2 d3 d4 d5 d6 d7 d8 z0 z1 z2 z3 z4 z5 z6 ml kl xl yl dl zl; obtain ⟨m0, m1, m2⟩ := cellsT3 D0.out; have ml := D0.out.lt; obtain ⟨k0, k1, k2, k3, k4, k5, k6⟩ := cellsT7 D1.out; have kl := D1.out.lt; obtain ⟨x0, x1, x2, x3, x4, x5, x6⟩ := cellsT7 D2.out; have xl := D2.out.lt; obtain ⟨y0, y1, y2, y3, y4, y5, y6⟩ := cellsT7 D3.out; have yl := D3.out.lt; obtain ⟨d0, d1, d2, d3, d4, d5, d6, d7, d8⟩ := cellsT9 D7.out; have dl := D7.out.lt; obtain ⟨z0, z1, z2, z3, z4, z5, z6⟩ := cellsT7 D8.out; have zl := D8.out.lt)
            clear m0 m1 m2 k0 k1 k2 k3 k4 k5 k6 x0 x1 x2 x3 x4 x5 x6 y0 y1 y2 y3 y4 y5 y6 d0 d1 d2 d3 d4 d5 d6 d7 d8 z0 z1 z2 z3 z4 z5 z6 ml kl xl yl dl zl
            obtain ⟨bN, hb, hzN⟩ := laidN wn #[.int .i64 v.kind, .string v.pkg, .int .i64 v.major, .string v.mod, .string v.name, .slice na6 v.names.length nc6, .slice sa6 v.subs.length sc6] 29
            generalize (wn.alloc (.cells #[.int .i64 v.kind, .string v.pkg, .int .i64 v.major, .string v.mod, .string v.name, .slice na6 v.names.length nc6, .slice sa6 v.subs.length sc6] 29)) = W21 at bN hb hzN ⊢
            have D0 := Lib.hid (D0.out.under hb D0.out.lt)
            have D1 := Lib.hid (D1.out.under hb D1.out.lt)
            have D2 := Lib.hid (D2.out.under hb D2.out.lt)
            have D3 := Lib.hid (D3.out.under hb D3.out.lt)
            have D7 := Lib.hid (D7.out.under hb D7.out.lt)
            have D8 := Lib.hid (D8.out.under hb D8.out.lt)
            have HXT := Lib.hid ((HXT.out.under hb).mono hb.size)
            have HYT := Lib.hid ((HYT.out.under hb).mono hb.size)
            have HTD := Lib.hid ((HTD.out.under hb).mono hb.size)
            have HZT := Lib.hid ((HZT.out.under hb).mono hb.size)
            have HVT := Lib.hid ((HVT.out.under hb).mono hb.size)
            have BC := Lib.hid (BC.out.trans (hb.mono BC.out.size))
            have D9 := Lib.hid bN
            clear bN hb hzN
            obtain ⟨m0, m1, m2⟩ := cellsT3 D0.out
            have ml := D0.out.lt
            obtain ⟨k0, k1, k2, k3, k4, k5, k6⟩ := cellsT7 D1.out
            have kl := D1.out.lt
            obtain ⟨x0, x1, x2, x3, x4, x5, x6⟩ := cellsT7 D2.out
            have xl := D2.out.lt
            obtain ⟨y0, y1, y2, y3, y4, y5, y6⟩ := cellsT7 D3.out
            have yl := D3.out.lt
            obtain ⟨d0, d1, d2, d3, d4, d5, d6, d7, d8⟩ := cellsT9 D7.out
            have dl := D7.out.lt
            obtain ⟨z0, z1, z2, z3, z4, z5, z6⟩ := cellsT7 D8.out
            have zl := D8.out.lt
            obtain ⟨v0, v1, v2, v3, v4, v5, v6⟩ := cellsT7 D9.out
            have vl := D9.out.lt
            have hcv : c3 = c4 ∧ z = v := by
              have h1 : ExpIs ⟨m, pkg, j, env⟩ m.decls[kk].ty c3 z := by rw [HDD.out]; exact HZI.out
              have h2 : ExpIs ⟨m, pkg, j, env⟩ (locT m.decls[kk].name) c4 v := by rw [HDD.out]; exact HVI.out
              exact ExpIs.alias (E := ⟨m, pkg, j, env⟩) hkn (by show m.decls[kk].kind = 3; rw [HDD.out]; exact HD3.out) HN.out h1 h2
            obtain ⟨rfl, rfl⟩ := hcv
            have hcodes := HZI.out.codes
            have HCD := Lib.hid hcodes
            clear hcodes
            go_wp2_with (first
              | (go_at_call 34; refine (code_any c3 HCD.out _).mono ?_; rintro e wn ⟨rfl, hb⟩; have D0 := Lib.hid (D0.out.under hb D0.out.lt); have D1 := Lib.hid (D1.out.under hb D1.out.lt); have D2 := Lib.hid (D2.out.under hb D2.out.lt); have D3 := Lib.hid (D3.out.under hb D3.out.lt); have D7 := Lib.hid (D7.out.under hb D7.out.lt); have D8 := Lib.hid (D8.out.under hb D8.out.lt); have D9 := Lib.hid (D9.out.under hb D9.out.lt); have HXT := Lib.hid ((HXT.out.under hb).mono hb.size); have HYT := Lib.hid ((HYT.out.under hb).mono hb.size); have HTD := Lib.hid ((HTD.out.under hb).mono hb.size); have HZT := Lib.hid ((HZT.out.under hb).mono hb.size); have HVT := Lib.hid ((HVT.out.under hb).mono hb.size); have BC := Lib.hid (BC.out.trans (hb.mono BC.out.size)); clear hb; clear m0 m1 m2 k0 k1 k2 k3 k4 k5 k6 x0 x1 x2 x3 x4 x5 x6 y0 y1 y2 y3 y4 y5 y6 d0 d1 d2 d3 d4 d5 d6 d7 d8 z0 z1 z2 z3 z4 z5 z6 v0 v1 v2 v3 v4 v5 v6 ml kl xl yl dl zl vl; obtain ⟨m0, m1, m2⟩ := cellsT3 D0.out; have ml := D0.out.lt; obtain ⟨k0, k1, k2, k3, k4, k5, k6⟩ := cellsT7 D1.out; have kl := D1.out.lt; obtain ⟨x0, x1, x2, x3, x4, x5, x6⟩ := cellsT7 D2.out; have xl := D2.out.lt; obtain ⟨y0, y1, y2, y3, y4, y5, y6⟩ := cellsT7 D3.out; have yl := D3.out.lt; obtain ⟨d0, d1, d2, d3, d4, d5, d6, d7, d8⟩ := cellsT9 D7.out; have dl := D7.out.lt; obtain ⟨z0, z1, z2, z3, z4, z5, z6⟩ := cellsT7 D8.out; have zl := D8.out.lt; obtain ⟨v0, v1, v2, v3, v4, v5, v6⟩ := cellsT7 D9.out; have vl := D9.out.lt)
              | (go_at_call 31; refine (same_yes rfl HZT.out HVT.out (Nat.le_refl _)).mono ?_; rintro e wn ⟨rfl, hb⟩; have D0 := Lib.hid (D0.out.under hb D0.out.lt); have D1 := Lib.hid (D1.out.under hb D1.out.lt); have D2 := Lib.hid (D2.out.under hb D2.out.lt); have D3 := Lib.hid (D3.out.under hb D3.out.lt); have D7 := Lib.hid (D7.out.under hb D7.out.lt); have D8 := Lib.hid (D8.out.under hb D8.out.lt); have D9 := Lib.hid (D9.out.under hb D9.out.lt); have HXT := Lib.hid ((HXT.out.under hb).mono hb.size); have HYT := Lib.hid ((HYT.out.under hb).mono hb.size); have HTD := Lib.hid ((HTD.out.under hb).mono hb.size); have HZT := Lib.hid ((HZT.out.under hb).mono hb.size); have HVT := Lib.hid ((HVT.out.under hb).mono hb.size); have BC := Lib.hid (BC.out.trans (hb.mono BC.out.size)); clear hb; clear m0 m1 m2 k0 k1 k2 k3 k4 k5 k6 x0 x1 x2 x3 x4 x5 x6 y0 y1 y2 y3 y4 y5 y6 d0 d1 d2 d3 d4 d5 d6 d7 d8 z0 z1 z2 z3 z4 z5 z6 v0 v1 v2 v3 v4 v5 v6 ml kl xl yl dl zl vl; obtain ⟨m0, m1, m2⟩ := cellsT3 D0.out; have ml := D0.out.lt; obtain ⟨k0, k1, k2, k3, k4, k5, k6⟩ := cellsT7 D1.out; have kl := D1.out.lt; obtain ⟨x0, x1, x2, x3, x4, x5, x6⟩ := cellsT7 D2.out; have xl := D2.out.lt; obtain ⟨y0, y1, y2, y3, y4, y5, y6⟩ := cellsT7 D3.out; have yl := D3.out.lt; obtain ⟨d0, d1, d2, d3, d4, d5, d6, d7, d8⟩ := cellsT9 D7.out; have dl := D7.out.lt; obtain ⟨z0, z1, z2, z3, z4, z5, z6⟩ := cellsT7 D8.out; have zl := D8.out.lt; obtain ⟨v0, v1, v2, v3, v4, v5, v6⟩ := cellsT7 D9.out; have vl := D9.out.lt))
            go_ret
            exact ⟨rfl, BC.out⟩
          · have hd3b : (d.kind == 3) = false := by simp [hd3]
            clear hd3
            go_wp2_with fail
            go_ret
            exact ⟨rfl, BC.out⟩
      · go_wp2_with fail
        go_ret
        exact ⟨rfl, BC.out⟩
end Go.Proofs.YtjeldfipipkfiaaGreatDoor
