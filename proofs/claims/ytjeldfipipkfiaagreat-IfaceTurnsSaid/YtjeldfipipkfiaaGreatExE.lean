/- The contract of expand.Expand: what a type of a module comes to, or what is amiss. -/
import Derived.Test.YtjeldfipipkfiaaGreatExU
namespace Go.Proofs.YtjeldfipipkfiaaGreat
open Go.RowKit
set_option linter.unusedSimpArgs false
set_option linter.unusedVariables false
def codeV (c : Int) : Value := if c = 0 then .nilIface else .iface 62 (.int .i64 c)
structure EnvC (w : World) (B : Nat) (E : Env) (ia : Option Addr) (ic : Nat) (da : Option Addr) (dc : Nat) (ea : Option Addr) (ec : Nat) : Prop where
  mdl : MdlC w B E.m ia ic da dc
  env : IfsAt w B ea E.env
  nd : E.m.decls.length ≤ 1000000
  ni : E.m.imps.length ≤ 1000000
  ne : E.env.length ≤ 1000000
  nt : ∀ x ∈ E.env, x.types.length ≤ 1000000
  pk : E.pkg.size ≤ maxLen
  ec : E.env.length ≤ ec
  mj : -9223372036854775808 ≤ E.major ∧ E.major ≤ 9223372036854775807
theorem EnvC.under {w w' : World} {B : Nat} {E : Env} {ia : Option Addr} {ic : Nat} {da : Option Addr} {dc : Nat} {ea : Option Addr} {ec : Nat} (h : EnvC w B E ia ic da dc ea ec) (hb : Below B w w') : EnvC w' B E ia ic da dc ea ec :=
  ⟨h.mdl.under hb, h.env.under hb, h.nd, h.ni, h.ne, h.nt, h.pk, h.ec, h.mj⟩
def ExpRet (w : World) (E : Env) (t : Ty) (e : Ending) (w' : World) : Prop := ∃ c y cs', e = .returned (.tuple #[.agg cs', codeV c]) ∧ ExpIs E t c y ∧ TyM w' (Fresh w w') y cs' ∧ Below w.heap.size w w'
set_option maxRecDepth 100000 in
set_option maxHeartbeats 8000000 in
theorem exp_a1 (E : Env) (ia : Option Addr) (ic : Nat) (da : Option Addr) (dc : Nat) (ea : Option Addr) (ec : Nat) (B : Nat) (t : Ty) (cs : Array Value) (w : World) (hE : EnvC w B E ia ic da dc ea ec) (ht : TyC w B t cs) (hB : B ≤ w.heap.size) (hck : checkF E.m ≠ none) :
    Calls Tryz.prog 24 #[.agg (mdlCells E.m ia ic da dc), .string E.pkg, .int .i64 E.major, .slice ea E.env.length ec, .agg cs] w (ExpRet w E t) := by
  obtain ⟨na, nc, sa, sc, f0, rfl, -⟩ := ht.inv
  have HE := Lib.hid hE
  have HT := Lib.hid ht
  have hpk := hE.pk
  have hne := hE.ne
  have hmj1 := hE.mj.1
  have hmj2 := hE.mj.2
  have HCK := Lib.hid (fun w' (hb : Below w.heap.size w w') => check_c E.m ia ic da dc B w' (hE.mdl.under (hb.mono hB)) (Nat.le_trans hB hb.size))
  have HMY := Lib.hid (fun w' (hb : Below w.heap.size w w') => May_c t _ B w' (ht.under (hb.mono hB)) (Nat.le_trans hB hb.size))
  have HSM := Lib.hid (fun w' => Small_c E.pkg w' hpk)
  simp only [mdlCells, tyCells] at HCK HMY HT ⊢
  clear hE ht hpk
  have hck2 : ∀ w', Below w.heap.size w w' → Calls Tryz.prog 22 #[.agg #[.string E.m.name, .slice ia E.m.imps.length ic, .slice da E.m.decls.length dc]] w' fun e w'' => ∃ T p, e = .returned (.iface T p) ∧ Below w'.heap.size w' w'' := fun w' hb => (HCK.out w' hb).mono fun e w'' ⟨v, h1, h2, h3⟩ => by
    obtain ⟨⟨c, q⟩, hq⟩ := Option.ne_none_iff_exists'.1 hck
    rw [hq] at h2
    cases q with
    | none => exact ⟨_, _, h1.trans (by rw [show v = .iface 62 (.int .i64 c) from h2]), h3⟩
    | some i => obtain ⟨b, h2, -⟩ := h2; exact ⟨_, _, h1.trans (by rw [h2]), h3⟩
  have HCK := Lib.hid hck2
  clear hck2
  have HA := Lib.hid (show argB E t = false by rw [argB]; obtain ⟨q, hq⟩ := Option.ne_none_iff_exists'.1 hck; rw [hq]; rfl)
  clear hck
  go_enter Tryz.func24, Tryz.ntmps24
  go_upto_region 1 with fail
  obtain ⟨W, hWq, d0, d1, d2, hz, hb⟩ := threeMX w #[.string E.m.name, .slice ia E.m.imps.length ic, .slice da E.m.decls.length dc] #[.int .i64 t.kind, .string t.pkg, .int .i64 t.major, .string t.mod, .string t.name, .slice na t.names.length nc, .slice sa t.subs.length sc] #[.int .i64 0, .string { data := #[] }, .int .i64 0, .string { data := #[] }, .string { data := #[] }, .slice none 0 0, .slice none 0 0] 25 53 53
  rewrite [← hWq]; clear hWq
  have B0 := Lib.hid hb
  have D0 := Lib.hid d0
  have D1 := Lib.hid d1
  have D2 := Lib.hid d2
  obtain ⟨m0, m1, m2⟩ := cellsT3 d0
  have ml := d0.lt
  clear hb d0 d1 d2
  have hWw : w.heap.size ≤ W.heap.size := by omega
  have BC := Lib.hid (Below.refl W.heap.size W)
  have p0 := D0.out.under BC.out D0.out.lt
  have p1 := D1.out.under BC.out D1.out.lt
  have p2 := D2.out.under BC.out D2.out.lt
  obtain ⟨m0, m1, m2⟩ := cellsT3 p0
  have ml := p0.lt
  obtain ⟨k0, k1, k2, k3, k4, k5, k6⟩ := cellsT7 p1
  have kl := p1.lt
  obtain ⟨e0, e1, e2, e3, e4, e5, e6⟩ := cellsT7 p2
  have g0 := p2.free 0
  have g1 := p2.free 1
  have g2 := p2.free 2
  have g3 := p2.free 3
  have g4 := p2.free 4
  have g5 := p2.free 5
  have g6 := p2.free 6
  have le := p2.lt
  clear p0 p1 p2
  go_wp2_with (go_at_call 22; refine (HCK.out _ (B0.out.trans (BC.out.mono hWw))).mono ?_; rintro e wn ⟨T, p, rfl, hb⟩; have BC := Lib.hid (BC.out.trans (hb.mono BC.out.size)); clear hb; clear m0 m1 m2 ml k0 k1 k2 k3 k4 k5 k6 kl e0 e1 e2 e3 e4 e5 e6 g0 g1 g2 g3 g4 g5 g6 le; have p0 := D0.out.under BC.out D0.out.lt; have p1 := D1.out.under BC.out D1.out.lt; have p2 := D2.out.under BC.out D2.out.lt; obtain ⟨m0, m1, m2⟩ := cellsT3 p0; have ml := p0.lt; obtain ⟨k0, k1, k2, k3, k4, k5, k6⟩ := cellsT7 p1; have kl := p1.lt; obtain ⟨e0, e1, e2, e3, e4, e5, e6⟩ := cellsT7 p2; have g0 := p2.free 0; have g1 := p2.free 1; have g2 := p2.free 2; have g3 := p2.free 3; have g4 := p2.free 4; have g5 := p2.free 5; have g6 := p2.free 6; have le := p2.lt; clear p0 p1 p2)
  obtain ⟨Wz, hWq, hp, hbp⟩ := st7 (.int .i64 0) (.string { data := #[] }) (.int .i64 0) (.string { data := #[] }) (.string { data := #[] }) (.slice none 0 0) (.slice none 0 0) (D2.out.under BC.out D2.out.lt) (B0.out.trans (BC.out.mono hWw)) (show w.heap.size ≤ w.heap.size + 1 + 1 by omega)
  rewrite [← hWq]; clear hWq
  obtain ⟨r0, r1, r2, r3, r4, r5, r6⟩ := cellsT7 hp
  refine bodyPost_ret (by simp [results, Tryz.results24, go_sem, r0, r1, r2, r3, r4, r5, r6]; try rfl) rfl ?_
  exact ⟨1, zT, _, rfl, .inl ⟨HA.out, rfl, rfl⟩, zT_m _ _, hbp⟩
set_option maxRecDepth 100000 in
set_option maxHeartbeats 8000000 in
theorem exp_a2 (E : Env) (ia : Option Addr) (ic : Nat) (da : Option Addr) (dc : Nat) (ea : Option Addr) (ec : Nat) (B : Nat) (t : Ty) (cs : Array Value) (w : World) (hE : EnvC w B E ia ic da dc ea ec) (ht : TyC w B t cs) (hB : B ≤ w.heap.size) (hck : checkF E.m = none) (hmy : mayT t = false) :
    Calls Tryz.prog 24 #[.agg (mdlCells E.m ia ic da dc), .string E.pkg, .int .i64 E.major, .slice ea E.env.length ec, .agg cs] w (ExpRet w E t) := by
  obtain ⟨na, nc, sa, sc, f0, rfl, -⟩ := ht.inv
  have HE := Lib.hid hE
  have HT := Lib.hid ht
  have hpk := hE.pk
  have hne := hE.ne
  have hmj1 := hE.mj.1
  have hmj2 := hE.mj.2
  have HCK := Lib.hid (fun w' (hb : Below w.heap.size w w') => check_c E.m ia ic da dc B w' (hE.mdl.under (hb.mono hB)) (Nat.le_trans hB hb.size))
  have HMY := Lib.hid (fun w' (hb : Below w.heap.size w w') => May_c t _ B w' (ht.under (hb.mono hB)) (Nat.le_trans hB hb.size))
  have HSM := Lib.hid (fun w' => Small_c E.pkg w' hpk)
  simp only [mdlCells, tyCells] at HCK HMY HT ⊢
  clear hE ht hpk
  have hck2 : ∀ w', Below w.heap.size w w' → Calls Tryz.prog 22 #[.agg #[.string E.m.name, .slice ia E.m.imps.length ic, .slice da E.m.decls.length dc]] w' fun e w'' => e = .returned .nilIface ∧ Below w'.heap.size w' w'' := fun w' hb => (HCK.out w' hb).mono fun e w'' ⟨v, h1, h2, h3⟩ => by rw [hck] at h2; exact ⟨h1.trans (by rw [show v = .nilIface from h2]), h3⟩
  have HCK := Lib.hid hck2
  clear hck2
  have HA := Lib.hid (show argB E t = false by rw [argB, hmy]; simp)
  simp only [hmy] at HMY
  clear hck hmy
  go_enter Tryz.func24, Tryz.ntmps24
  go_upto_region 1 with fail
  obtain ⟨W, hWq, d0, d1, d2, hz, hb⟩ := threeMX w #[.string E.m.name, .slice ia E.m.imps.length ic, .slice da E.m.decls.length dc] #[.int .i64 t.kind, .string t.pkg, .int .i64 t.major, .string t.mod, .string t.name, .slice na t.names.length nc, .slice sa t.subs.length sc] #[.int .i64 0, .string { data := #[] }, .int .i64 0, .string { data := #[] }, .string { data := #[] }, .slice none 0 0, .slice none 0 0] 25 53 53
  rewrite [← hWq]; clear hWq
  have B0 := Lib.hid hb
  have D0 := Lib.hid d0
  have D1 := Lib.hid d1
  have D2 := Lib.hid d2
  obtain ⟨m0, m1, m2⟩ := cellsT3 d0
  have ml := d0.lt
  clear hb d0 d1 d2
  have hWw : w.heap.size ≤ W.heap.size := by omega
  have BC := Lib.hid (Below.refl W.heap.size W)
  have p0 := D0.out.under BC.out D0.out.lt
  have p1 := D1.out.under BC.out D1.out.lt
  have p2 := D2.out.under BC.out D2.out.lt
  obtain ⟨m0, m1, m2⟩ := cellsT3 p0
  have ml := p0.lt
  obtain ⟨k0, k1, k2, k3, k4, k5, k6⟩ := cellsT7 p1
  have kl := p1.lt
  obtain ⟨e0, e1, e2, e3, e4, e5, e6⟩ := cellsT7 p2
  have g0 := p2.free 0
  have g1 := p2.free 1
  have g2 := p2.free 2
  have g3 := p2.free 3
  have g4 := p2.free 4
  have g5 := p2.free 5
  have g6 := p2.free 6
  have le := p2.lt
  clear p0 p1 p2
  go_wp2_with (first | (go_at_call 22; refine (HCK.out _ (B0.out.trans (BC.out.mono hWw))).mono ?_; rintro e wn ⟨rfl, hb⟩; have BC := Lib.hid (BC.out.trans (hb.mono BC.out.size)); clear hb; clear m0 m1 m2 ml k0 k1 k2 k3 k4 k5 k6 kl e0 e1 e2 e3 e4 e5 e6 g0 g1 g2 g3 g4 g5 g6 le; have p0 := D0.out.under BC.out D0.out.lt; have p1 := D1.out.under BC.out D1.out.lt; have p2 := D2.out.under BC.out D2.out.lt; obtain ⟨m0, m1, m2⟩ := cellsT3 p0; have ml := p0.lt; obtain ⟨k0, k1, k2, k3, k4, k5, k6⟩ := cellsT7 p1; have kl := p1.lt; obtain ⟨e0, e1, e2, e3, e4, e5, e6⟩ := cellsT7 p2; have g0 := p2.free 0; have g1 := p2.free 1; have g2 := p2.free 2; have g3 := p2.free 3; have g4 := p2.free 4; have g5 := p2.free 5; have g6 := p2.free 6; have le := p2.lt; clear p0 p1 p2) | (go_at_call 48; refine (HMY.out _ (B0.out.trans (BC.out.mono hWw))).mono ?_; rintro e wn ⟨rfl, hb⟩; have BC := Lib.hid (BC.out.trans (hb.mono BC.out.size)); clear hb; clear m0 m1 m2 ml k0 k1 k2 k3 k4 k5 k6 kl e0 e1 e2 e3 e4 e5 e6 g0 g1 g2 g3 g4 g5 g6 le; have p0 := D0.out.under BC.out D0.out.lt; have p1 := D1.out.under BC.out D1.out.lt; have p2 := D2.out.under BC.out D2.out.lt; obtain ⟨m0, m1, m2⟩ := cellsT3 p0; have ml := p0.lt; obtain ⟨k0, k1, k2, k3, k4, k5, k6⟩ := cellsT7 p1; have kl := p1.lt; obtain ⟨e0, e1, e2, e3, e4, e5, e6⟩ := cellsT7 p2; have g0 := p2.free 0; have g1 := p2.free 1; have g2 := p2.free 2; have g3 := p2.free 3; have g4 := p2.free 4; have g5 := p2.free 5; have g6 := p2.free 6; have le := p2.lt; clear p0 p1 p2))
  obtain ⟨Wz, hWq, hp, hbp⟩ := st7 (.int .i64 0) (.string { data := #[] }) (.int .i64 0) (.string { data := #[] }) (.string { data := #[] }) (.slice none 0 0) (.slice none 0 0) (D2.out.under BC.out D2.out.lt) (B0.out.trans (BC.out.mono hWw)) (show w.heap.size ≤ w.heap.size + 1 + 1 by omega)
  rewrite [← hWq]; clear hWq
  obtain ⟨r0, r1, r2, r3, r4, r5, r6⟩ := cellsT7 hp
  refine bodyPost_ret (by simp [results, Tryz.results24, go_sem, r0, r1, r2, r3, r4, r5, r6]; try rfl) rfl ?_
  exact ⟨1, zT, _, rfl, .inl ⟨HA.out, rfl, rfl⟩, zT_m _ _, hbp⟩
set_option maxRecDepth 100000 in
set_option maxHeartbeats 8000000 in
theorem exp_a3 (E : Env) (ia : Option Addr) (ic : Nat) (da : Option Addr) (dc : Nat) (ea : Option Addr) (ec : Nat) (B : Nat) (t : Ty) (cs : Array Value) (w : World) (hE : EnvC w B E ia ic da dc ea ec) (ht : TyC w B t cs) (hB : B ≤ w.heap.size) (hck : checkF E.m = none) (hmy : mayT t = true) (hsm : smallB E.pkg = false) :
    Calls Tryz.prog 24 #[.agg (mdlCells E.m ia ic da dc), .string E.pkg, .int .i64 E.major, .slice ea E.env.length ec, .agg cs] w (ExpRet w E t) := by
  obtain ⟨na, nc, sa, sc, f0, rfl, -⟩ := ht.inv
  have HE := Lib.hid hE
  have HT := Lib.hid ht
  have hpk := hE.pk
  have hne := hE.ne
  have hmj1 := hE.mj.1
  have hmj2 := hE.mj.2
  have HCK := Lib.hid (fun w' (hb : Below w.heap.size w w') => check_c E.m ia ic da dc B w' (hE.mdl.under (hb.mono hB)) (Nat.le_trans hB hb.size))
  have HMY := Lib.hid (fun w' (hb : Below w.heap.size w w') => May_c t _ B w' (ht.under (hb.mono hB)) (Nat.le_trans hB hb.size))
  have HSM := Lib.hid (fun w' => Small_c E.pkg w' hpk)
  simp only [mdlCells, tyCells] at HCK HMY HT ⊢
  clear hE ht hpk
  have hck2 : ∀ w', Below w.heap.size w w' → Calls Tryz.prog 22 #[.agg #[.string E.m.name, .slice ia E.m.imps.length ic, .slice da E.m.decls.length dc]] w' fun e w'' => e = .returned .nilIface ∧ Below w'.heap.size w' w'' := fun w' hb => (HCK.out w' hb).mono fun e w'' ⟨v, h1, h2, h3⟩ => by rw [hck] at h2; exact ⟨h1.trans (by rw [show v = .nilIface from h2]), h3⟩
  have HCK := Lib.hid hck2
  clear hck2
  have HA := Lib.hid (show argB E t = false by rw [argB, hsm]; simp)
  simp only [hmy] at HMY
  simp only [hsm] at HSM
  clear hck hmy hsm
  go_enter Tryz.func24, Tryz.ntmps24
  go_upto_region 1 with fail
  obtain ⟨W, hWq, d0, d1, d2, hz, hb⟩ := threeMX w #[.string E.m.name, .slice ia E.m.imps.length ic, .slice da E.m.decls.length dc] #[.int .i64 t.kind, .string t.pkg, .int .i64 t.major, .string t.mod, .string t.name, .slice na t.names.length nc, .slice sa t.subs.length sc] #[.int .i64 0, .string { data := #[] }, .int .i64 0, .string { data := #[] }, .string { data := #[] }, .slice none 0 0, .slice none 0 0] 25 53 53
  rewrite [← hWq]; clear hWq
  have B0 := Lib.hid hb
  have D0 := Lib.hid d0
  have D1 := Lib.hid d1
  have D2 := Lib.hid d2
  obtain ⟨m0, m1, m2⟩ := cellsT3 d0
  have ml := d0.lt
  clear hb d0 d1 d2
  have hWw : w.heap.size ≤ W.heap.size := by omega
  have BC := Lib.hid (Below.refl W.heap.size W)
  have p0 := D0.out.under BC.out D0.out.lt
  have p1 := D1.out.under BC.out D1.out.lt
  have p2 := D2.out.under BC.out D2.out.lt
  obtain ⟨m0, m1, m2⟩ := cellsT3 p0
  have ml := p0.lt
  obtain ⟨k0, k1, k2, k3, k4, k5, k6⟩ := cellsT7 p1
  have kl := p1.lt
  obtain ⟨e0, e1, e2, e3, e4, e5, e6⟩ := cellsT7 p2
  have g0 := p2.free 0
  have g1 := p2.free 1
  have g2 := p2.free 2
  have g3 := p2.free 3
  have g4 := p2.free 4
  have g5 := p2.free 5
  have g6 := p2.free 6
  have le := p2.lt
  clear p0 p1 p2
  go_wp2_with (first | (go_at_call 22; refine (HCK.out _ (B0.out.trans (BC.out.mono hWw))).mono ?_; rintro e wn ⟨rfl, hb⟩; have BC := Lib.hid (BC.out.trans (hb.mono BC.out.size)); clear hb; clear m0 m1 m2 ml k0 k1 k2 k3 k4 k5 k6 kl e0 e1 e2 e3 e4 e5 e6 g0 g1 g2 g3 g4 g5 g6 le; have p0 := D0.out.under BC.out D0.out.lt; have p1 := D1.out.under BC.out D1.out.lt; have p2 := D2.out.under BC.out D2.out.lt; obtain ⟨m0, m1, m2⟩ := cellsT3 p0; have ml := p0.lt; obtain ⟨k0, k1, k2, k3, k4, k5, k6⟩ := cellsT7 p1; have kl := p1.lt; obtain ⟨e0, e1, e2, e3, e4, e5, e6⟩ := cellsT7 p2; have g0 := p2.free 0; have g1 := p2.free 1; have g2 := p2.free 2; have g3 := p2.free 3; have g4 := p2.free 4; have g5 := p2.free 5; have g6 := p2.free 6; have le := p2.lt; clear p0 p1 p2) | (go_at_call 48; refine (HMY.out _ (B0.out.trans (BC.out.mono hWw))).mono ?_; rintro e wn ⟨rfl, hb⟩; have BC := Lib.hid (BC.out.trans (hb.mono BC.out.size)); clear hb; clear m0 m1 m2 ml k0 k1 k2 k3 k4 k5 k6 kl e0 e1 e2 e3 e4 e5 e6 g0 g1 g2 g3 g4 g5 g6 le; have p0 := D0.out.under BC.out D0.out.lt; have p1 := D1.out.under BC.out D1.out.lt; have p2 := D2.out.under BC.out D2.out.lt; obtain ⟨m0, m1, m2⟩ := cellsT3 p0; have ml := p0.lt; obtain ⟨k0, k1, k2, k3, k4, k5, k6⟩ := cellsT7 p1; have kl := p1.lt; obtain ⟨e0, e1, e2, e3, e4, e5, e6⟩ := cellsT7 p2; have g0 := p2.free 0; have g1 := p2.free 1; have g2 := p2.free 2; have g3 := p2.free 3; have g4 := p2.free 4; have g5 := p2.free 5; have g6 := p2.free 6; have le := p2.lt; clear p0 p1 p2) | (go_at_call 23; refine (HSM.out _).mono ?_; rintro e wn ⟨rfl, hb⟩; have BC := Lib.hid (BC.out.trans (hb.mono BC.out.size)); clear hb; clear m0 m1 m2 ml k0 k1 k2 k3 k4 k5 k6 kl e0 e1 e2 e3 e4 e5 e6 g0 g1 g2 g3 g4 g5 g6 le; have p0 := D0.out.under BC.out D0.out.lt; have p1 := D1.out.under BC.out D1.out.lt; have p2 := D2.out.under BC.out D2.out.lt; obtain ⟨m0, m1, m2⟩ := cellsT3 p0; have ml := p0.lt; obtain ⟨k0, k1, k2, k3, k4, k5, k6⟩ := cellsT7 p1; have kl := p1.lt; obtain ⟨e0, e1, e2, e3, e4, e5, e6⟩ := cellsT7 p2; have g0 := p2.free 0; have g1 := p2.free 1; have g2 := p2.free 2; have g3 := p2.free 3; have g4 := p2.free 4; have g5 := p2.free 5; have g6 := p2.free 6; have le := p2.lt; clear p0 p1 p2))
  obtain ⟨Wz, hWq, hp, hbp⟩ := st7 (.int .i64 0) (.string { data := #[] }) (.int .i64 0) (.string { data := #[] }) (.string { data := #[] }) (.slice none 0 0) (.slice none 0 0) (D2.out.under BC.out D2.out.lt) (B0.out.trans (BC.out.mono hWw)) (show w.heap.size ≤ w.heap.size + 1 + 1 by omega)
  rewrite [← hWq]; clear hWq
  obtain ⟨r0, r1, r2, r3, r4, r5, r6⟩ := cellsT7 hp
  refine bodyPost_ret (by simp [results, Tryz.results24, go_sem, r0, r1, r2, r3, r4, r5, r6]; try rfl) rfl ?_
  exact ⟨1, zT, _, rfl, .inl ⟨HA.out, rfl, rfl⟩, zT_m _ _, hbp⟩
set_option maxRecDepth 100000 in
set_option maxHeartbeats 8000000 in
theorem exp_a4 (E : Env) (ia : Option Addr) (ic : Nat) (da : Option Addr) (dc : Nat) (ea : Option Addr) (ec : Nat) (B : Nat) (t : Ty) (cs : Array Value) (w : World) (hE : EnvC w B E ia ic da dc ea ec) (ht : TyC w B t cs) (hB : B ≤ w.heap.size) (hck : checkF E.m = none) (hmy : mayT t = true) (hsm : smallB E.pkg = true) (h1 : E.major < 1) :
    Calls Tryz.prog 24 #[.agg (mdlCells E.m ia ic da dc), .string E.pkg, .int .i64 E.major, .slice ea E.env.length ec, .agg cs] w (ExpRet w E t) := by
  obtain ⟨na, nc, sa, sc, f0, rfl, -⟩ := ht.inv
  have HE := Lib.hid hE
  have HT := Lib.hid ht
  have hpk := hE.pk
  have hne := hE.ne
  have hmj1 := hE.mj.1
  have hmj2 := hE.mj.2
  have HCK := Lib.hid (fun w' (hb : Below w.heap.size w w') => check_c E.m ia ic da dc B w' (hE.mdl.under (hb.mono hB)) (Nat.le_trans hB hb.size))
  have HMY := Lib.hid (fun w' (hb : Below w.heap.size w w') => May_c t _ B w' (ht.under (hb.mono hB)) (Nat.le_trans hB hb.size))
  have HSM := Lib.hid (fun w' => Small_c E.pkg w' hpk)
  simp only [mdlCells, tyCells] at HCK HMY HT ⊢
  clear hE ht hpk
  have hck2 : ∀ w', Below w.heap.size w w' → Calls Tryz.prog 22 #[.agg #[.string E.m.name, .slice ia E.m.imps.length ic, .slice da E.m.decls.length dc]] w' fun e w'' => e = .returned .nilIface ∧ Below w'.heap.size w' w'' := fun w' hb => (HCK.out w' hb).mono fun e w'' ⟨v, h1, h2, h3⟩ => by rw [hck] at h2; exact ⟨h1.trans (by rw [show v = .nilIface from h2]), h3⟩
  have HCK := Lib.hid hck2
  clear hck2
  have HA := Lib.hid (show argB E t = false by rw [argB, decide_eq_false (show ¬ (1 ≤ E.major) by omega)]; simp)
  simp only [hmy] at HMY
  simp only [hsm] at HSM
  clear hck hmy hsm
  go_enter Tryz.func24, Tryz.ntmps24
  go_upto_region 1 with fail
  obtain ⟨W, hWq, d0, d1, d2, hz, hb⟩ := threeMX w #[.string E.m.name, .slice ia E.m.imps.length ic, .slice da E.m.decls.length dc] #[.int .i64 t.kind, .string t.pkg, .int .i64 t.major, .string t.mod, .string t.name, .slice na t.names.length nc, .slice sa t.subs.length sc] #[.int .i64 0, .string { data := #[] }, .int .i64 0, .string { data := #[] }, .string { data := #[] }, .slice none 0 0, .slice none 0 0] 25 53 53
  rewrite [← hWq]; clear hWq
  have B0 := Lib.hid hb
  have D0 := Lib.hid d0
  have D1 := Lib.hid d1
  have D2 := Lib.hid d2
  obtain ⟨m0, m1, m2⟩ := cellsT3 d0
  have ml := d0.lt
  clear hb d0 d1 d2
  have hWw : w.heap.size ≤ W.heap.size := by omega
  have BC := Lib.hid (Below.refl W.heap.size W)
  have p0 := D0.out.under BC.out D0.out.lt
  have p1 := D1.out.under BC.out D1.out.lt
  have p2 := D2.out.under BC.out D2.out.lt
  obtain ⟨m0, m1, m2⟩ := cellsT3 p0
  have ml := p0.lt
  obtain ⟨k0, k1, k2, k3, k4, k5, k6⟩ := cellsT7 p1
  have kl := p1.lt
  obtain ⟨e0, e1, e2, e3, e4, e5, e6⟩ := cellsT7 p2
  have g0 := p2.free 0
  have g1 := p2.free 1
  have g2 := p2.free 2
  have g3 := p2.free 3
  have g4 := p2.free 4
  have g5 := p2.free 5
  have g6 := p2.free 6
  have le := p2.lt
  clear p0 p1 p2
  go_wp2_with (first | (go_at_call 22; refine (HCK.out _ (B0.out.trans (BC.out.mono hWw))).mono ?_; rintro e wn ⟨rfl, hb⟩; have BC := Lib.hid (BC.out.trans (hb.mono BC.out.size)); clear hb; clear m0 m1 m2 ml k0 k1 k2 k3 k4 k5 k6 kl e0 e1 e2 e3 e4 e5 e6 g0 g1 g2 g3 g4 g5 g6 le; have p0 := D0.out.under BC.out D0.out.lt; have p1 := D1.out.under BC.out D1.out.lt; have p2 := D2.out.under BC.out D2.out.lt; obtain ⟨m0, m1, m2⟩ := cellsT3 p0; have ml := p0.lt; obtain ⟨k0, k1, k2, k3, k4, k5, k6⟩ := cellsT7 p1; have kl := p1.lt; obtain ⟨e0, e1, e2, e3, e4, e5, e6⟩ := cellsT7 p2; have g0 := p2.free 0; have g1 := p2.free 1; have g2 := p2.free 2; have g3 := p2.free 3; have g4 := p2.free 4; have g5 := p2.free 5; have g6 := p2.free 6; have le := p2.lt; clear p0 p1 p2) | (go_at_call 48; refine (HMY.out _ (B0.out.trans (BC.out.mono hWw))).mono ?_; rintro e wn ⟨rfl, hb⟩; have BC := Lib.hid (BC.out.trans (hb.mono BC.out.size)); clear hb; clear m0 m1 m2 ml k0 k1 k2 k3 k4 k5 k6 kl e0 e1 e2 e3 e4 e5 e6 g0 g1 g2 g3 g4 g5 g6 le; have p0 := D0.out.under BC.out D0.out.lt; have p1 := D1.out.under BC.out D1.out.lt; have p2 := D2.out.under BC.out D2.out.lt; obtain ⟨m0, m1, m2⟩ := cellsT3 p0; have ml := p0.lt; obtain ⟨k0, k1, k2, k3, k4, k5, k6⟩ := cellsT7 p1; have kl := p1.lt; obtain ⟨e0, e1, e2, e3, e4, e5, e6⟩ := cellsT7 p2; have g0 := p2.free 0; have g1 := p2.free 1; have g2 := p2.free 2; have g3 := p2.free 3; have g4 := p2.free 4; have g5 := p2.free 5; have g6 := p2.free 6; have le := p2.lt; clear p0 p1 p2) | (go_at_call 23; refine (HSM.out _).mono ?_; rintro e wn ⟨rfl, hb⟩; have BC := Lib.hid (BC.out.trans (hb.mono BC.out.size)); clear hb; clear m0 m1 m2 ml k0 k1 k2 k3 k4 k5 k6 kl e0 e1 e2 e3 e4 e5 e6 g0 g1 g2 g3 g4 g5 g6 le; have p0 := D0.out.under BC.out D0.out.lt; have p1 := D1.out.under BC.out D1.out.lt; have p2 := D2.out.under BC.out D2.out.lt; obtain ⟨m0, m1, m2⟩ := cellsT3 p0; have ml := p0.lt; obtain ⟨k0, k1, k2, k3, k4, k5, k6⟩ := cellsT7 p1; have kl := p1.lt; obtain ⟨e0, e1, e2, e3, e4, e5, e6⟩ := cellsT7 p2; have g0 := p2.free 0; have g1 := p2.free 1; have g2 := p2.free 2; have g3 := p2.free 3; have g4 := p2.free 4; have g5 := p2.free 5; have g6 := p2.free 6; have le := p2.lt; clear p0 p1 p2))
  obtain ⟨Wz, hWq, hp, hbp⟩ := st7 (.int .i64 0) (.string { data := #[] }) (.int .i64 0) (.string { data := #[] }) (.string { data := #[] }) (.slice none 0 0) (.slice none 0 0) (D2.out.under BC.out D2.out.lt) (B0.out.trans (BC.out.mono hWw)) (show w.heap.size ≤ w.heap.size + 1 + 1 by omega)
  rewrite [← hWq]; clear hWq
  obtain ⟨r0, r1, r2, r3, r4, r5, r6⟩ := cellsT7 hp
  refine bodyPost_ret (by simp [results, Tryz.results24, go_sem, r0, r1, r2, r3, r4, r5, r6]; try rfl) rfl ?_
  exact ⟨1, zT, _, rfl, .inl ⟨HA.out, rfl, rfl⟩, zT_m _ _, hbp⟩
set_option maxRecDepth 100000 in
set_option maxHeartbeats 8000000 in
theorem exp_a5 (E : Env) (ia : Option Addr) (ic : Nat) (da : Option Addr) (dc : Nat) (ea : Option Addr) (ec : Nat) (B : Nat) (t : Ty) (cs : Array Value) (w : World) (hE : EnvC w B E ia ic da dc ea ec) (ht : TyC w B t cs) (hB : B ≤ w.heap.size) (hck : checkF E.m = none) (hmy : mayT t = true) (hsm : smallB E.pkg = true) (h1 : ¬ E.major < 1) (h2 : 999999999 < E.major) :
    Calls Tryz.prog 24 #[.agg (mdlCells E.m ia ic da dc), .string E.pkg, .int .i64 E.major, .slice ea E.env.length ec, .agg cs] w (ExpRet w E t) := by
  obtain ⟨na, nc, sa, sc, f0, rfl, -⟩ := ht.inv
  have HE := Lib.hid hE
  have HT := Lib.hid ht
  have hpk := hE.pk
  have hne := hE.ne
  have hmj1 := hE.mj.1
  have hmj2 := hE.mj.2
  have HCK := Lib.hid (fun w' (hb : Below w.heap.size w w') => check_c E.m ia ic da dc B w' (hE.mdl.under (hb.mono hB)) (Nat.le_trans hB hb.size))
  have HMY := Lib.hid (fun w' (hb : Below w.heap.size w w') => May_c t _ B w' (ht.under (hb.mono hB)) (Nat.le_trans hB hb.size))
  have HSM := Lib.hid (fun w' => Small_c E.pkg w' hpk)
  simp only [mdlCells, tyCells] at HCK HMY HT ⊢
  clear hE ht hpk
  have hck2 : ∀ w', Below w.heap.size w w' → Calls Tryz.prog 22 #[.agg #[.string E.m.name, .slice ia E.m.imps.length ic, .slice da E.m.decls.length dc]] w' fun e w'' => e = .returned .nilIface ∧ Below w'.heap.size w' w'' := fun w' hb => (HCK.out w' hb).mono fun e w'' ⟨v, h1, h2, h3⟩ => by rw [hck] at h2; exact ⟨h1.trans (by rw [show v = .nilIface from h2]), h3⟩
  have HCK := Lib.hid hck2
  clear hck2
  have HA := Lib.hid (show argB E t = false by rw [argB, decide_eq_false (show ¬ (E.major ≤ 999999999) by omega)]; simp)
  simp only [hmy] at HMY
  simp only [hsm] at HSM
  clear hck hmy hsm
  go_enter Tryz.func24, Tryz.ntmps24
  go_upto_region 1 with fail
  obtain ⟨W, hWq, d0, d1, d2, hz, hb⟩ := threeMX w #[.string E.m.name, .slice ia E.m.imps.length ic, .slice da E.m.decls.length dc] #[.int .i64 t.kind, .string t.pkg, .int .i64 t.major, .string t.mod, .string t.name, .slice na t.names.length nc, .slice sa t.subs.length sc] #[.int .i64 0, .string { data := #[] }, .int .i64 0, .string { data := #[] }, .string { data := #[] }, .slice none 0 0, .slice none 0 0] 25 53 53
  rewrite [← hWq]; clear hWq
  have B0 := Lib.hid hb
  have D0 := Lib.hid d0
  have D1 := Lib.hid d1
  have D2 := Lib.hid d2
  obtain ⟨m0, m1, m2⟩ := cellsT3 d0
  have ml := d0.lt
  clear hb d0 d1 d2
  have hWw : w.heap.size ≤ W.heap.size := by omega
  have BC := Lib.hid (Below.refl W.heap.size W)
  have p0 := D0.out.under BC.out D0.out.lt
  have p1 := D1.out.under BC.out D1.out.lt
  have p2 := D2.out.under BC.out D2.out.lt
  obtain ⟨m0, m1, m2⟩ := cellsT3 p0
  have ml := p0.lt
  obtain ⟨k0, k1, k2, k3, k4, k5, k6⟩ := cellsT7 p1
  have kl := p1.lt
  obtain ⟨e0, e1, e2, e3, e4, e5, e6⟩ := cellsT7 p2
  have g0 := p2.free 0
  have g1 := p2.free 1
  have g2 := p2.free 2
  have g3 := p2.free 3
  have g4 := p2.free 4
  have g5 := p2.free 5
  have g6 := p2.free 6
  have le := p2.lt
  clear p0 p1 p2
  go_wp2_with (first | (go_at_call 22; refine (HCK.out _ (B0.out.trans (BC.out.mono hWw))).mono ?_; rintro e wn ⟨rfl, hb⟩; have BC := Lib.hid (BC.out.trans (hb.mono BC.out.size)); clear hb; clear m0 m1 m2 ml k0 k1 k2 k3 k4 k5 k6 kl e0 e1 e2 e3 e4 e5 e6 g0 g1 g2 g3 g4 g5 g6 le; have p0 := D0.out.under BC.out D0.out.lt; have p1 := D1.out.under BC.out D1.out.lt; have p2 := D2.out.under BC.out D2.out.lt; obtain ⟨m0, m1, m2⟩ := cellsT3 p0; have ml := p0.lt; obtain ⟨k0, k1, k2, k3, k4, k5, k6⟩ := cellsT7 p1; have kl := p1.lt; obtain ⟨e0, e1, e2, e3, e4, e5, e6⟩ := cellsT7 p2; have g0 := p2.free 0; have g1 := p2.free 1; have g2 := p2.free 2; have g3 := p2.free 3; have g4 := p2.free 4; have g5 := p2.free 5; have g6 := p2.free 6; have le := p2.lt; clear p0 p1 p2) | (go_at_call 48; refine (HMY.out _ (B0.out.trans (BC.out.mono hWw))).mono ?_; rintro e wn ⟨rfl, hb⟩; have BC := Lib.hid (BC.out.trans (hb.mono BC.out.size)); clear hb; clear m0 m1 m2 ml k0 k1 k2 k3 k4 k5 k6 kl e0 e1 e2 e3 e4 e5 e6 g0 g1 g2 g3 g4 g5 g6 le; have p0 := D0.out.under BC.out D0.out.lt; have p1 := D1.out.under BC.out D1.out.lt; have p2 := D2.out.under BC.out D2.out.lt; obtain ⟨m0, m1, m2⟩ := cellsT3 p0; have ml := p0.lt; obtain ⟨k0, k1, k2, k3, k4, k5, k6⟩ := cellsT7 p1; have kl := p1.lt; obtain ⟨e0, e1, e2, e3, e4, e5, e6⟩ := cellsT7 p2; have g0 := p2.free 0; have g1 := p2.free 1; have g2 := p2.free 2; have g3 := p2.free 3; have g4 := p2.free 4; have g5 := p2.free 5; have g6 := p2.free 6; have le := p2.lt; clear p0 p1 p2) | (go_at_call 23; refine (HSM.out _).mono ?_; rintro e wn ⟨rfl, hb⟩; have BC := Lib.hid (BC.out.trans (hb.mono BC.out.size)); clear hb; clear m0 m1 m2 ml k0 k1 k2 k3 k4 k5 k6 kl e0 e1 e2 e3 e4 e5 e6 g0 g1 g2 g3 g4 g5 g6 le; have p0 := D0.out.under BC.out D0.out.lt; have p1 := D1.out.under BC.out D1.out.lt; have p2 := D2.out.under BC.out D2.out.lt; obtain ⟨m0, m1, m2⟩ := cellsT3 p0; have ml := p0.lt; obtain ⟨k0, k1, k2, k3, k4, k5, k6⟩ := cellsT7 p1; have kl := p1.lt; obtain ⟨e0, e1, e2, e3, e4, e5, e6⟩ := cellsT7 p2; have g0 := p2.free 0; have g1 := p2.free 1; have g2 := p2.free 2; have g3 := p2.free 3; have g4 := p2.free 4; have g5 := p2.free 5; have g6 := p2.free 6; have le := p2.lt; clear p0 p1 p2))
  obtain ⟨Wz, hWq, hp, hbp⟩ := st7 (.int .i64 0) (.string { data := #[] }) (.int .i64 0) (.string { data := #[] }) (.string { data := #[] }) (.slice none 0 0) (.slice none 0 0) (D2.out.under BC.out D2.out.lt) (B0.out.trans (BC.out.mono hWw)) (show w.heap.size ≤ w.heap.size + 1 + 1 by omega)
  rewrite [← hWq]; clear hWq
  obtain ⟨r0, r1, r2, r3, r4, r5, r6⟩ := cellsT7 hp
  refine bodyPost_ret (by simp [results, Tryz.results24, go_sem, r0, r1, r2, r3, r4, r5, r6]; try rfl) rfl ?_
  exact ⟨1, zT, _, rfl, .inl ⟨HA.out, rfl, rfl⟩, zT_m _ _, hbp⟩
set_option maxRecDepth 100000 in
set_option maxHeartbeats 8000000 in
theorem exp_a6 (E : Env) (ia : Option Addr) (ic : Nat) (da : Option Addr) (dc : Nat) (ea : Option Addr) (ec : Nat) (B : Nat) (t : Ty) (cs : Array Value) (w : World) (hE : EnvC w B E ia ic da dc ea ec) (ht : TyC w B t cs) (hB : B ≤ w.heap.size) (hck : checkF E.m = none) (hmy : mayT t = true) (hsm : smallB E.pkg = true) (h1 : ¬ E.major < 1) (h2 : ¬ 999999999 < E.major) (h3 : 100 < (E.env.length : Int)) :
    Calls Tryz.prog 24 #[.agg (mdlCells E.m ia ic da dc), .string E.pkg, .int .i64 E.major, .slice ea E.env.length ec, .agg cs] w (ExpRet w E t) := by
  obtain ⟨na, nc, sa, sc, f0, rfl, -⟩ := ht.inv
  have HE := Lib.hid hE
  have HT := Lib.hid ht
  have hpk := hE.pk
  have hne := hE.ne
  have hmj1 := hE.mj.1
  have hmj2 := hE.mj.2
  have HCK := Lib.hid (fun w' (hb : Below w.heap.size w w') => check_c E.m ia ic da dc B w' (hE.mdl.under (hb.mono hB)) (Nat.le_trans hB hb.size))
  have HMY := Lib.hid (fun w' (hb : Below w.heap.size w w') => May_c t _ B w' (ht.under (hb.mono hB)) (Nat.le_trans hB hb.size))
  have HSM := Lib.hid (fun w' => Small_c E.pkg w' hpk)
  simp only [mdlCells, tyCells] at HCK HMY HT ⊢
  clear hE ht hpk
  have hck2 : ∀ w', Below w.heap.size w w' → Calls Tryz.prog 22 #[.agg #[.string E.m.name, .slice ia E.m.imps.length ic, .slice da E.m.decls.length dc]] w' fun e w'' => e = .returned .nilIface ∧ Below w'.heap.size w' w'' := fun w' hb => (HCK.out w' hb).mono fun e w'' ⟨v, h1, h2, h3⟩ => by rw [hck] at h2; exact ⟨h1.trans (by rw [show v = .nilIface from h2]), h3⟩
  have HCK := Lib.hid hck2
  clear hck2
  have HA := Lib.hid (show argB E t = false by rw [argB, decide_eq_false (show ¬ (E.env.length ≤ 100) by omega)]; simp)
  simp only [hmy] at HMY
  simp only [hsm] at HSM
  clear hck hmy hsm
  go_enter Tryz.func24, Tryz.ntmps24
  go_upto_region 1 with fail
  obtain ⟨W, hWq, d0, d1, d2, hz, hb⟩ := threeMX w #[.string E.m.name, .slice ia E.m.imps.length ic, .slice da E.m.decls.length dc] #[.int .i64 t.kind, .string t.pkg, .int .i64 t.major, .string t.mod, .string t.name, .slice na t.names.length nc, .slice sa t.subs.length sc] #[.int .i64 0, .string { data := #[] }, .int .i64 0, .string { data := #[] }, .string { data := #[] }, .slice none 0 0, .slice none 0 0] 25 53 53
  rewrite [← hWq]; clear hWq
  have B0 := Lib.hid hb
  have D0 := Lib.hid d0
  have D1 := Lib.hid d1
  have D2 := Lib.hid d2
  obtain ⟨m0, m1, m2⟩ := cellsT3 d0
  have ml := d0.lt
  clear hb d0 d1 d2
  have hWw : w.heap.size ≤ W.heap.size := by omega
  have BC := Lib.hid (Below.refl W.heap.size W)
  have p0 := D0.out.under BC.out D0.out.lt
  have p1 := D1.out.under BC.out D1.out.lt
  have p2 := D2.out.under BC.out D2.out.lt
  obtain ⟨m0, m1, m2⟩ := cellsT3 p0
  have ml := p0.lt
  obtain ⟨k0, k1, k2, k3, k4, k5, k6⟩ := cellsT7 p1
  have kl := p1.lt
  obtain ⟨e0, e1, e2, e3, e4, e5, e6⟩ := cellsT7 p2
  have g0 := p2.free 0
  have g1 := p2.free 1
  have g2 := p2.free 2
  have g3 := p2.free 3
  have g4 := p2.free 4
  have g5 := p2.free 5
  have g6 := p2.free 6
  have le := p2.lt
  clear p0 p1 p2
  go_wp2_with (first | (go_at_call 22; refine (HCK.out _ (B0.out.trans (BC.out.mono hWw))).mono ?_; rintro e wn ⟨rfl, hb⟩; have BC := Lib.hid (BC.out.trans (hb.mono BC.out.size)); clear hb; clear m0 m1 m2 ml k0 k1 k2 k3 k4 k5 k6 kl e0 e1 e2 e3 e4 e5 e6 g0 g1 g2 g3 g4 g5 g6 le; have p0 := D0.out.under BC.out D0.out.lt; have p1 := D1.out.under BC.out D1.out.lt; have p2 := D2.out.under BC.out D2.out.lt; obtain ⟨m0, m1, m2⟩ := cellsT3 p0; have ml := p0.lt; obtain ⟨k0, k1, k2, k3, k4, k5, k6⟩ := cellsT7 p1; have kl := p1.lt; obtain ⟨e0, e1, e2, e3, e4, e5, e6⟩ := cellsT7 p2; have g0 := p2.free 0; have g1 := p2.free 1; have g2 := p2.free 2; have g3 := p2.free 3; have g4 := p2.free 4; have g5 := p2.free 5; have g6 := p2.free 6; have le := p2.lt; clear p0 p1 p2) | (go_at_call 48; refine (HMY.out _ (B0.out.trans (BC.out.mono hWw))).mono ?_; rintro e wn ⟨rfl, hb⟩; have BC := Lib.hid (BC.out.trans (hb.mono BC.out.size)); clear hb; clear m0 m1 m2 ml k0 k1 k2 k3 k4 k5 k6 kl e0 e1 e2 e3 e4 e5 e6 g0 g1 g2 g3 g4 g5 g6 le; have p0 := D0.out.under BC.out D0.out.lt; have p1 := D1.out.under BC.out D1.out.lt; have p2 := D2.out.under BC.out D2.out.lt; obtain ⟨m0, m1, m2⟩ := cellsT3 p0; have ml := p0.lt; obtain ⟨k0, k1, k2, k3, k4, k5, k6⟩ := cellsT7 p1; have kl := p1.lt; obtain ⟨e0, e1, e2, e3, e4, e5, e6⟩ := cellsT7 p2; have g0 := p2.free 0; have g1 := p2.free 1; have g2 := p2.free 2; have g3 := p2.free 3; have g4 := p2.free 4; have g5 := p2.free 5; have g6 := p2.free 6; have le := p2.lt; clear p0 p1 p2) | (go_at_call 23; refine (HSM.out _).mono ?_; rintro e wn ⟨rfl, hb⟩; have BC := Lib.hid (BC.out.trans (hb.mono BC.out.size)); clear hb; clear m0 m1 m2 ml k0 k1 k2 k3 k4 k5 k6 kl e0 e1 e2 e3 e4 e5 e6 g0 g1 g2 g3 g4 g5 g6 le; have p0 := D0.out.under BC.out D0.out.lt; have p1 := D1.out.under BC.out D1.out.lt; have p2 := D2.out.under BC.out D2.out.lt; obtain ⟨m0, m1, m2⟩ := cellsT3 p0; have ml := p0.lt; obtain ⟨k0, k1, k2, k3, k4, k5, k6⟩ := cellsT7 p1; have kl := p1.lt; obtain ⟨e0, e1, e2, e3, e4, e5, e6⟩ := cellsT7 p2; have g0 := p2.free 0; have g1 := p2.free 1; have g2 := p2.free 2; have g3 := p2.free 3; have g4 := p2.free 4; have g5 := p2.free 5; have g6 := p2.free 6; have le := p2.lt; clear p0 p1 p2))
  obtain ⟨Wz, hWq, hp, hbp⟩ := st7 (.int .i64 0) (.string { data := #[] }) (.int .i64 0) (.string { data := #[] }) (.string { data := #[] }) (.slice none 0 0) (.slice none 0 0) (D2.out.under BC.out D2.out.lt) (B0.out.trans (BC.out.mono hWw)) (show w.heap.size ≤ w.heap.size + 1 + 1 by omega)
  rewrite [← hWq]; clear hWq
  obtain ⟨r0, r1, r2, r3, r4, r5, r6⟩ := cellsT7 hp
  refine bodyPost_ret (by simp [results, Tryz.results24, go_sem, r0, r1, r2, r3, r4, r5, r6]; try rfl) rfl ?_
  exact ⟨1, zT, _, rfl, .inl ⟨HA.out, rfl, rfl⟩, zT_m _ _, hbp⟩
set_option maxRecDepth 100000 in
set_option maxHeartbeats 8000000 in
theorem exp_b1 (E : Env) (ia : Option Addr) (ic : Nat) (da : Option Addr) (dc : Nat) (ea : Option Addr) (ec : Nat) (B : Nat) (t : Ty) (cs : Array Value) (w : World) (hE : EnvC w B E ia ic da dc ea ec) (ht : TyC w B t cs) (hB : B ≤ w.heap.size) (ha : argB E t = true) (hk : knownB E t = false) :
    Calls Tryz.prog 24 #[.agg (mdlCells E.m ia ic da dc), .string E.pkg, .int .i64 E.major, .slice ea E.env.length ec, .agg cs] w (ExpRet w E t) := by
  obtain ⟨na, nc, sa, sc, f0, rfl, -⟩ := ht.inv
  have HE := Lib.hid hE
  have HT := Lib.hid ht
  have hpk := hE.pk
  have hne := hE.ne
  have hmj1 := hE.mj.1
  have hmj2 := hE.mj.2
  have HCK := Lib.hid (fun w' (hb : Below w.heap.size w w') => check_c E.m ia ic da dc B w' (hE.mdl.under (hb.mono hB)) (Nat.le_trans hB hb.size))
  have HMY := Lib.hid (fun w' (hb : Below w.heap.size w w') => May_c t _ B w' (ht.under (hb.mono hB)) (Nat.le_trans hB hb.size))
  have HSM := Lib.hid (fun w' => Small_c E.pkg w' hpk)
  simp only [mdlCells, tyCells] at HCK HMY HT ⊢
  clear hE ht hpk
  have HK := Lib.hid hk
  clear hk
  obtain ⟨hck, hwell, hmm, hmy, hsm, hj1, hj2, hel⟩ := well_of ha
  have HA := Lib.hid ha
  have HWELL := Lib.hid hwell
  have HMM := Lib.hid hmm
  have HMAY := Lib.hid hmy
  have HSMB := Lib.hid hsm
  have hck2 : ∀ w', Below w.heap.size w w' → Calls Tryz.prog 22 #[.agg #[.string E.m.name, .slice ia E.m.imps.length ic, .slice da E.m.decls.length dc]] w' fun e w'' => e = .returned .nilIface ∧ Below w'.heap.size w' w'' := fun w' hb => (HCK.out w' hb).mono fun e w'' ⟨v, h1, h2, h3⟩ => by rw [hck] at h2; exact ⟨h1.trans (by rw [show v = .nilIface from h2]), h3⟩
  have HCK := Lib.hid hck2
  clear hck2
  simp only [hmy] at HMY
  simp only [hsm] at HSM
  have h1 : ¬ E.major < 1 := by omega
  have h2 : ¬ 999999999 < E.major := by omega
  have h3 : ¬ 100 < (E.env.length : Int) := by omega
  clear ha hck hwell hmm hmy hsm
  go_enter Tryz.func24, Tryz.ntmps24
  go_upto_region 1 with fail
  obtain ⟨W, hWq, d0, d1, d2, hz, hb⟩ := threeMX w #[.string E.m.name, .slice ia E.m.imps.length ic, .slice da E.m.decls.length dc] #[.int .i64 t.kind, .string t.pkg, .int .i64 t.major, .string t.mod, .string t.name, .slice na t.names.length nc, .slice sa t.subs.length sc] #[.int .i64 0, .string { data := #[] }, .int .i64 0, .string { data := #[] }, .string { data := #[] }, .slice none 0 0, .slice none 0 0] 25 53 53
  rewrite [← hWq]; clear hWq
  have B0 := Lib.hid hb
  have D0 := Lib.hid d0
  have D1 := Lib.hid d1
  have D2 := Lib.hid d2
  obtain ⟨m0, m1, m2⟩ := cellsT3 d0
  have ml := d0.lt
  clear hb d0 d1 d2
  have hWw : w.heap.size ≤ W.heap.size := by omega
  have BC := Lib.hid (Below.refl W.heap.size W)
  have p0 := D0.out.under BC.out D0.out.lt
  have p1 := D1.out.under BC.out D1.out.lt
  have p2 := D2.out.under BC.out D2.out.lt
  obtain ⟨m0, m1, m2⟩ := cellsT3 p0
  have ml := p0.lt
  obtain ⟨k0, k1, k2, k3, k4, k5, k6⟩ := cellsT7 p1
  have kl := p1.lt
  obtain ⟨e0, e1, e2, e3, e4, e5, e6⟩ := cellsT7 p2
  have g0 := p2.free 0
  have g1 := p2.free 1
  have g2 := p2.free 2
  have g3 := p2.free 3
  have g4 := p2.free 4
  have g5 := p2.free 5
  have g6 := p2.free 6
  have le := p2.lt
  clear p0 p1 p2
  go_upto_region 4 with (first | (go_at_call 22; refine (HCK.out _ (B0.out.trans (BC.out.mono hWw))).mono ?_; rintro e wn ⟨rfl, hb⟩; have BC := Lib.hid (BC.out.trans (hb.mono BC.out.size)); clear hb; clear m0 m1 m2 ml k0 k1 k2 k3 k4 k5 k6 kl e0 e1 e2 e3 e4 e5 e6 g0 g1 g2 g3 g4 g5 g6 le; have p0 := D0.out.under BC.out D0.out.lt; have p1 := D1.out.under BC.out D1.out.lt; have p2 := D2.out.under BC.out D2.out.lt; obtain ⟨m0, m1, m2⟩ := cellsT3 p0; have ml := p0.lt; obtain ⟨k0, k1, k2, k3, k4, k5, k6⟩ := cellsT7 p1; have kl := p1.lt; obtain ⟨e0, e1, e2, e3, e4, e5, e6⟩ := cellsT7 p2; have g0 := p2.free 0; have g1 := p2.free 1; have g2 := p2.free 2; have g3 := p2.free 3; have g4 := p2.free 4; have g5 := p2.free 5; have g6 := p2.free 6; have le := p2.lt; clear p0 p1 p2) | (go_at_call 48; refine (HMY.out _ (B0.out.trans (BC.out.mono hWw))).mono ?_; rintro e wn ⟨rfl, hb⟩; have BC := Lib.hid (BC.out.trans (hb.mono BC.out.size)); clear hb; clear m0 m1 m2 ml k0 k1 k2 k3 k4 k5 k6 kl e0 e1 e2 e3 e4 e5 e6 g0 g1 g2 g3 g4 g5 g6 le; have p0 := D0.out.under BC.out D0.out.lt; have p1 := D1.out.under BC.out D1.out.lt; have p2 := D2.out.under BC.out D2.out.lt; obtain ⟨m0, m1, m2⟩ := cellsT3 p0; have ml := p0.lt; obtain ⟨k0, k1, k2, k3, k4, k5, k6⟩ := cellsT7 p1; have kl := p1.lt; obtain ⟨e0, e1, e2, e3, e4, e5, e6⟩ := cellsT7 p2; have g0 := p2.free 0; have g1 := p2.free 1; have g2 := p2.free 2; have g3 := p2.free 3; have g4 := p2.free 4; have g5 := p2.free 5; have g6 := p2.free 6; have le := p2.lt; clear p0 p1 p2) | (go_at_call 23; refine (HSM.out _).mono ?_; rintro e wn ⟨rfl, hb⟩; have BC := Lib.hid (BC.out.trans (hb.mono BC.out.size)); clear hb; clear m0 m1 m2 ml k0 k1 k2 k3 k4 k5 k6 kl e0 e1 e2 e3 e4 e5 e6 g0 g1 g2 g3 g4 g5 g6 le; have p0 := D0.out.under BC.out D0.out.lt; have p1 := D1.out.under BC.out D1.out.lt; have p2 := D2.out.under BC.out D2.out.lt; obtain ⟨m0, m1, m2⟩ := cellsT3 p0; have ml := p0.lt; obtain ⟨k0, k1, k2, k3, k4, k5, k6⟩ := cellsT7 p1; have kl := p1.lt; obtain ⟨e0, e1, e2, e3, e4, e5, e6⟩ := cellsT7 p2; have g0 := p2.free 0; have g1 := p2.free 1; have g2 := p2.free 2; have g3 := p2.free 3; have g4 := p2.free 4; have g5 := p2.free 5; have g6 := p2.free 6; have le := p2.lt; clear p0 p1 p2))
  obtain ⟨b5, h5, hz5⟩ := laidN wn #[.string E.m.name, .slice ia E.m.imps.length ic, .slice da E.m.decls.length dc, .string E.pkg, .int .i64 E.major, .slice ea E.env.length ec, .int .i64 500, .bool false] 96
  have lX : w.heap.size + 1 + 1 + 1 ≤ wn.heap.size := by have := BC.out.size; omega
  generalize (wn.alloc (.cells #[.string E.m.name, .slice ia E.m.imps.length ic, .slice da E.m.decls.length dc, .string E.pkg, .int .i64 E.major, .slice ea E.env.length ec, .int .i64 500, .bool false] 96)) = W5 at b5 h5 hz5 ⊢
  generalize wn.heap.size = X at *
  have BC := Lib.hid (BC.out.trans (h5.mono (show W.heap.size ≤ X by omega)))
  clear kl k0 k1 k2 k3 k4 k5 k6 e0 e1 e2 e3 e4 e5 e6 g0 g1 g2 g3 g4 g5 g6 le
  clear m0 m1 m2 ml
  have p1 := D1.out.under BC.out D1.out.lt
  have p2 := D2.out.under BC.out D2.out.lt
  obtain ⟨k0, k1, k2, k3, k4, k5, k6⟩ := cellsT7 p1
  have kl := p1.lt
  obtain ⟨e0, e1, e2, e3, e4, e5, e6⟩ := cellsT7 p2
  have g0 := p2.free 0
  have g1 := p2.free 1
  have g2 := p2.free 2
  have g3 := p2.free 3
  have g4 := p2.free 4
  have g5 := p2.free 5
  have g6 := p2.free 6
  have le := p2.lt
  clear p1 p2
  have hEX : ExA W5 B X E ia ic da dc ea ec 500 false := ⟨b5, HE.out.mdl.under (((B0.out.trans (BC.out.mono hWw)).mono hB)), HE.out.env.under (((B0.out.trans (BC.out.mono hWw)).mono hB)), by omega, HE.out.nd, HE.out.ni, HE.out.ne, HE.out.nt⟩
  have HX5 := Lib.hid hEX
  have BB := Lib.hid ((B0.out.trans (BC.out.mono hWw)).mono hB)
  have hBw : B ≤ W5.heap.size := hEX.base
  have B5 := Lib.hid (Below.refl W5.heap.size W5)
  have hmt : manyT t ≤ 1000000 := by have := (may_all HMAY.out).2.1; omega
  have hea := fun w' (hb : Below W5.heap.size W5 w') => each_c 50 (.pointer (some ⟨X, 0, none⟩)) (knownL E.m) B (by intro a w; rfl) t _ w' ((HT.out.under BB.out).under (hb.mono hBw)) (Nat.le_trans hBw hb.size) hmt (fun w2 hb2 l _ cs' hl => xKnown_c B X E ia ic da dc ea ec 500 false l cs' w2 ((HX5.out.under hb).under hb2) hl)
  simp only [show (localsT t).all (knownL E.m) = false from HK.out] at hea
  have HEA := Lib.hid hea
  clear hea hEX b5 h5 hmt
  go_wp2_with (go_at_call 49; refine (HEA.out _ B5.out).mono ?_; rintro e wn ⟨rfl, hb⟩; have BC := Lib.hid (BC.out.trans (hb.mono BC.out.size)); have B5 := Lib.hid (B5.out.trans (hb.mono B5.out.size)); clear hb; clear kl k0 k1 k2 k3 k4 k5 k6 e0 e1 e2 e3 e4 e5 e6 g0 g1 g2 g3 g4 g5 g6 le; have p1 := D1.out.under BC.out D1.out.lt; have p2 := D2.out.under BC.out D2.out.lt; obtain ⟨k0, k1, k2, k3, k4, k5, k6⟩ := cellsT7 p1; have kl := p1.lt; obtain ⟨e0, e1, e2, e3, e4, e5, e6⟩ := cellsT7 p2; have g0 := p2.free 0; have g1 := p2.free 1; have g2 := p2.free 2; have g3 := p2.free 3; have g4 := p2.free 4; have g5 := p2.free 5; have g6 := p2.free 6; have le := p2.lt; clear p1 p2)
  obtain ⟨Wz, hWq, hp, hbp⟩ := st7 (.int .i64 0) (.string { data := #[] }) (.int .i64 0) (.string { data := #[] }) (.string { data := #[] }) (.slice none 0 0) (.slice none 0 0) (D2.out.under BC.out D2.out.lt) (B0.out.trans (BC.out.mono hWw)) (show w.heap.size ≤ w.heap.size + 1 + 1 by omega)
  rewrite [← hWq]; clear hWq
  obtain ⟨r0, r1, r2, r3, r4, r5, r6⟩ := cellsT7 hp
  refine bodyPost_ret (by simp [results, Tryz.results24, go_sem, r0, r1, r2, r3, r4, r5, r6]; try rfl) rfl ?_
  exact ⟨4, zT, _, rfl, .inr (.inl ⟨HA.out, HK.out, rfl, rfl⟩), zT_m _ _, hbp⟩
set_option maxRecDepth 100000 in
set_option maxHeartbeats 8000000 in
theorem exp_b2 (E : Env) (ia : Option Addr) (ic : Nat) (da : Option Addr) (dc : Nat) (ea : Option Addr) (ec : Nat) (B : Nat) (t : Ty) (cs : Array Value) (w : World) (hE : EnvC w B E ia ic da dc ea ec) (ht : TyC w B t cs) (hB : B ≤ w.heap.size) (ha : argB E t = true) (hk : knownB E t = true) (hc : complB E t = false) :
    Calls Tryz.prog 24 #[.agg (mdlCells E.m ia ic da dc), .string E.pkg, .int .i64 E.major, .slice ea E.env.length ec, .agg cs] w (ExpRet w E t) := by
  obtain ⟨na, nc, sa, sc, f0, rfl, -⟩ := ht.inv
  have HE := Lib.hid hE
  have HT := Lib.hid ht
  have hpk := hE.pk
  have hne := hE.ne
  have hmj1 := hE.mj.1
  have hmj2 := hE.mj.2
  have HCK := Lib.hid (fun w' (hb : Below w.heap.size w w') => check_c E.m ia ic da dc B w' (hE.mdl.under (hb.mono hB)) (Nat.le_trans hB hb.size))
  have HMY := Lib.hid (fun w' (hb : Below w.heap.size w w') => May_c t _ B w' (ht.under (hb.mono hB)) (Nat.le_trans hB hb.size))
  have HSM := Lib.hid (fun w' => Small_c E.pkg w' hpk)
  simp only [mdlCells, tyCells] at HCK HMY HT ⊢
  clear hE ht hpk
  have HK := Lib.hid hk
  have HC := Lib.hid hc
  clear hk hc
  obtain ⟨hck, hwell, hmm, hmy, hsm, hj1, hj2, hel⟩ := well_of ha
  have HA := Lib.hid ha
  have HWELL := Lib.hid hwell
  have HMM := Lib.hid hmm
  have HMAY := Lib.hid hmy
  have HSMB := Lib.hid hsm
  have hck2 : ∀ w', Below w.heap.size w w' → Calls Tryz.prog 22 #[.agg #[.string E.m.name, .slice ia E.m.imps.length ic, .slice da E.m.decls.length dc]] w' fun e w'' => e = .returned .nilIface ∧ Below w'.heap.size w' w'' := fun w' hb => (HCK.out w' hb).mono fun e w'' ⟨v, h1, h2, h3⟩ => by rw [hck] at h2; exact ⟨h1.trans (by rw [show v = .nilIface from h2]), h3⟩
  have HCK := Lib.hid hck2
  clear hck2
  simp only [hmy] at HMY
  simp only [hsm] at HSM
  have h1 : ¬ E.major < 1 := by omega
  have h2 : ¬ 999999999 < E.major := by omega
  have h3 : ¬ 100 < (E.env.length : Int) := by omega
  clear ha hck hwell hmm hmy hsm
  go_enter Tryz.func24, Tryz.ntmps24
  go_upto_region 1 with fail
  obtain ⟨W, hWq, d0, d1, d2, hz, hb⟩ := threeMX w #[.string E.m.name, .slice ia E.m.imps.length ic, .slice da E.m.decls.length dc] #[.int .i64 t.kind, .string t.pkg, .int .i64 t.major, .string t.mod, .string t.name, .slice na t.names.length nc, .slice sa t.subs.length sc] #[.int .i64 0, .string { data := #[] }, .int .i64 0, .string { data := #[] }, .string { data := #[] }, .slice none 0 0, .slice none 0 0] 25 53 53
  rewrite [← hWq]; clear hWq
  have B0 := Lib.hid hb
  have D0 := Lib.hid d0
  have D1 := Lib.hid d1
  have D2 := Lib.hid d2
  obtain ⟨m0, m1, m2⟩ := cellsT3 d0
  have ml := d0.lt
  clear hb d0 d1 d2
  have hWw : w.heap.size ≤ W.heap.size := by omega
  have BC := Lib.hid (Below.refl W.heap.size W)
  have p0 := D0.out.under BC.out D0.out.lt
  have p1 := D1.out.under BC.out D1.out.lt
  have p2 := D2.out.under BC.out D2.out.lt
  obtain ⟨m0, m1, m2⟩ := cellsT3 p0
  have ml := p0.lt
  obtain ⟨k0, k1, k2, k3, k4, k5, k6⟩ := cellsT7 p1
  have kl := p1.lt
  obtain ⟨e0, e1, e2, e3, e4, e5, e6⟩ := cellsT7 p2
  have g0 := p2.free 0
  have g1 := p2.free 1
  have g2 := p2.free 2
  have g3 := p2.free 3
  have g4 := p2.free 4
  have g5 := p2.free 5
  have g6 := p2.free 6
  have le := p2.lt
  clear p0 p1 p2
  go_upto_region 4 with (first | (go_at_call 22; refine (HCK.out _ (B0.out.trans (BC.out.mono hWw))).mono ?_; rintro e wn ⟨rfl, hb⟩; have BC := Lib.hid (BC.out.trans (hb.mono BC.out.size)); clear hb; clear m0 m1 m2 ml k0 k1 k2 k3 k4 k5 k6 kl e0 e1 e2 e3 e4 e5 e6 g0 g1 g2 g3 g4 g5 g6 le; have p0 := D0.out.under BC.out D0.out.lt; have p1 := D1.out.under BC.out D1.out.lt; have p2 := D2.out.under BC.out D2.out.lt; obtain ⟨m0, m1, m2⟩ := cellsT3 p0; have ml := p0.lt; obtain ⟨k0, k1, k2, k3, k4, k5, k6⟩ := cellsT7 p1; have kl := p1.lt; obtain ⟨e0, e1, e2, e3, e4, e5, e6⟩ := cellsT7 p2; have g0 := p2.free 0; have g1 := p2.free 1; have g2 := p2.free 2; have g3 := p2.free 3; have g4 := p2.free 4; have g5 := p2.free 5; have g6 := p2.free 6; have le := p2.lt; clear p0 p1 p2) | (go_at_call 48; refine (HMY.out _ (B0.out.trans (BC.out.mono hWw))).mono ?_; rintro e wn ⟨rfl, hb⟩; have BC := Lib.hid (BC.out.trans (hb.mono BC.out.size)); clear hb; clear m0 m1 m2 ml k0 k1 k2 k3 k4 k5 k6 kl e0 e1 e2 e3 e4 e5 e6 g0 g1 g2 g3 g4 g5 g6 le; have p0 := D0.out.under BC.out D0.out.lt; have p1 := D1.out.under BC.out D1.out.lt; have p2 := D2.out.under BC.out D2.out.lt; obtain ⟨m0, m1, m2⟩ := cellsT3 p0; have ml := p0.lt; obtain ⟨k0, k1, k2, k3, k4, k5, k6⟩ := cellsT7 p1; have kl := p1.lt; obtain ⟨e0, e1, e2, e3, e4, e5, e6⟩ := cellsT7 p2; have g0 := p2.free 0; have g1 := p2.free 1; have g2 := p2.free 2; have g3 := p2.free 3; have g4 := p2.free 4; have g5 := p2.free 5; have g6 := p2.free 6; have le := p2.lt; clear p0 p1 p2) | (go_at_call 23; refine (HSM.out _).mono ?_; rintro e wn ⟨rfl, hb⟩; have BC := Lib.hid (BC.out.trans (hb.mono BC.out.size)); clear hb; clear m0 m1 m2 ml k0 k1 k2 k3 k4 k5 k6 kl e0 e1 e2 e3 e4 e5 e6 g0 g1 g2 g3 g4 g5 g6 le; have p0 := D0.out.under BC.out D0.out.lt; have p1 := D1.out.under BC.out D1.out.lt; have p2 := D2.out.under BC.out D2.out.lt; obtain ⟨m0, m1, m2⟩ := cellsT3 p0; have ml := p0.lt; obtain ⟨k0, k1, k2, k3, k4, k5, k6⟩ := cellsT7 p1; have kl := p1.lt; obtain ⟨e0, e1, e2, e3, e4, e5, e6⟩ := cellsT7 p2; have g0 := p2.free 0; have g1 := p2.free 1; have g2 := p2.free 2; have g3 := p2.free 3; have g4 := p2.free 4; have g5 := p2.free 5; have g6 := p2.free 6; have le := p2.lt; clear p0 p1 p2))
  obtain ⟨b5, h5, hz5⟩ := laidN wn #[.string E.m.name, .slice ia E.m.imps.length ic, .slice da E.m.decls.length dc, .string E.pkg, .int .i64 E.major, .slice ea E.env.length ec, .int .i64 500, .bool false] 96
  have lX : w.heap.size + 1 + 1 + 1 ≤ wn.heap.size := by have := BC.out.size; omega
  generalize (wn.alloc (.cells #[.string E.m.name, .slice ia E.m.imps.length ic, .slice da E.m.decls.length dc, .string E.pkg, .int .i64 E.major, .slice ea E.env.length ec, .int .i64 500, .bool false] 96)) = W5 at b5 h5 hz5 ⊢
  generalize wn.heap.size = X at *
  have BC := Lib.hid (BC.out.trans (h5.mono (show W.heap.size ≤ X by omega)))
  clear kl k0 k1 k2 k3 k4 k5 k6 e0 e1 e2 e3 e4 e5 e6 g0 g1 g2 g3 g4 g5 g6 le
  clear m0 m1 m2 ml
  have p1 := D1.out.under BC.out D1.out.lt
  have p2 := D2.out.under BC.out D2.out.lt
  obtain ⟨k0, k1, k2, k3, k4, k5, k6⟩ := cellsT7 p1
  have kl := p1.lt
  obtain ⟨e0, e1, e2, e3, e4, e5, e6⟩ := cellsT7 p2
  have g0 := p2.free 0
  have g1 := p2.free 1
  have g2 := p2.free 2
  have g3 := p2.free 3
  have g4 := p2.free 4
  have g5 := p2.free 5
  have g6 := p2.free 6
  have le := p2.lt
  clear p1 p2
  have hEX : ExA W5 B X E ia ic da dc ea ec 500 false := ⟨b5, HE.out.mdl.under (((B0.out.trans (BC.out.mono hWw)).mono hB)), HE.out.env.under (((B0.out.trans (BC.out.mono hWw)).mono hB)), by omega, HE.out.nd, HE.out.ni, HE.out.ne, HE.out.nt⟩
  have HX5 := Lib.hid hEX
  have BB := Lib.hid ((B0.out.trans (BC.out.mono hWw)).mono hB)
  have hBw : B ≤ W5.heap.size := hEX.base
  have B5 := Lib.hid (Below.refl W5.heap.size W5)
  have hmt : manyT t ≤ 1000000 := by have := (may_all HMAY.out).2.1; omega
  have hea := fun w' (hb : Below W5.heap.size W5 w') => each_c 50 (.pointer (some ⟨X, 0, none⟩)) (knownL E.m) B (by intro a w; rfl) t _ w' ((HT.out.under BB.out).under (hb.mono hBw)) (Nat.le_trans hBw hb.size) hmt (fun w2 hb2 l _ cs' hl => xKnown_c B X E ia ic da dc ea ec 500 false l cs' w2 ((HX5.out.under hb).under hb2) hl)
  simp only [show (localsT t).all (knownL E.m) = true from HK.out] at hea
  have HEA := Lib.hid hea
  clear hea hEX b5 h5 hmt
  have hco := fun w' (hb : Below W5.heap.size W5 w') => xCompl_c B X E ia ic da dc ea ec 500 false t _ w' (HX5.out.under hb) ((HT.out.under BB.out).under (hb.mono hBw)) HMM.out HMAY.out
  simp only [HC.out] at hco
  have HCO := Lib.hid hco
  clear hco
  go_wp2_with (first | (go_at_call 49; refine (HEA.out _ B5.out).mono ?_; rintro e wn ⟨rfl, hb⟩; have BC := Lib.hid (BC.out.trans (hb.mono BC.out.size)); have B5 := Lib.hid (B5.out.trans (hb.mono B5.out.size)); clear hb; clear kl k0 k1 k2 k3 k4 k5 k6 e0 e1 e2 e3 e4 e5 e6 g0 g1 g2 g3 g4 g5 g6 le; have p1 := D1.out.under BC.out D1.out.lt; have p2 := D2.out.under BC.out D2.out.lt; obtain ⟨k0, k1, k2, k3, k4, k5, k6⟩ := cellsT7 p1; have kl := p1.lt; obtain ⟨e0, e1, e2, e3, e4, e5, e6⟩ := cellsT7 p2; have g0 := p2.free 0; have g1 := p2.free 1; have g2 := p2.free 2; have g3 := p2.free 3; have g4 := p2.free 4; have g5 := p2.free 5; have g6 := p2.free 6; have le := p2.lt; clear p1 p2) | (go_at_call 51; refine (HCO.out _ B5.out).mono ?_; rintro e wn ⟨rfl, hb⟩; have BC := Lib.hid (BC.out.trans (hb.mono BC.out.size)); have B5 := Lib.hid (B5.out.trans (hb.mono B5.out.size)); clear hb; clear kl k0 k1 k2 k3 k4 k5 k6 e0 e1 e2 e3 e4 e5 e6 g0 g1 g2 g3 g4 g5 g6 le; have p1 := D1.out.under BC.out D1.out.lt; have p2 := D2.out.under BC.out D2.out.lt; obtain ⟨k0, k1, k2, k3, k4, k5, k6⟩ := cellsT7 p1; have kl := p1.lt; obtain ⟨e0, e1, e2, e3, e4, e5, e6⟩ := cellsT7 p2; have g0 := p2.free 0; have g1 := p2.free 1; have g2 := p2.free 2; have g3 := p2.free 3; have g4 := p2.free 4; have g5 := p2.free 5; have g6 := p2.free 6; have le := p2.lt; clear p1 p2))
  obtain ⟨Wz, hWq, hp, hbp⟩ := st7 (.int .i64 0) (.string { data := #[] }) (.int .i64 0) (.string { data := #[] }) (.string { data := #[] }) (.slice none 0 0) (.slice none 0 0) (D2.out.under BC.out D2.out.lt) (B0.out.trans (BC.out.mono hWw)) (show w.heap.size ≤ w.heap.size + 1 + 1 by omega)
  rewrite [← hWq]; clear hWq
  obtain ⟨r0, r1, r2, r3, r4, r5, r6⟩ := cellsT7 hp
  refine bodyPost_ret (by simp [results, Tryz.results24, go_sem, r0, r1, r2, r3, r4, r5, r6]; try rfl) rfl ?_
  exact ⟨9, zT, _, rfl, .inr (.inr (.inl ⟨HA.out, HK.out, HC.out, rfl, rfl⟩)), zT_m _ _, hbp⟩
set_option maxRecDepth 100000 in
set_option maxHeartbeats 8000000 in
theorem exp_b3 (E : Env) (ia : Option Addr) (ic : Nat) (da : Option Addr) (dc : Nat) (ea : Option Addr) (ec : Nat) (B : Nat) (t : Ty) (cs : Array Value) (w : World) (hE : EnvC w B E ia ic da dc ea ec) (ht : TyC w B t cs) (hB : B ≤ w.heap.size) (ha : argB E t = true) (hk : knownB E t = true) (hc : complB E t = true) :
    Calls Tryz.prog 24 #[.agg (mdlCells E.m ia ic da dc), .string E.pkg, .int .i64 E.major, .slice ea E.env.length ec, .agg cs] w (ExpRet w E t) := by
  obtain ⟨na, nc, sa, sc, f0, rfl, -⟩ := ht.inv
  have HE := Lib.hid hE
  have HT := Lib.hid ht
  have hpk := hE.pk
  have hne := hE.ne
  have hmj1 := hE.mj.1
  have hmj2 := hE.mj.2
  have HCK := Lib.hid (fun w' (hb : Below w.heap.size w w') => check_c E.m ia ic da dc B w' (hE.mdl.under (hb.mono hB)) (Nat.le_trans hB hb.size))
  have HMY := Lib.hid (fun w' (hb : Below w.heap.size w w') => May_c t _ B w' (ht.under (hb.mono hB)) (Nat.le_trans hB hb.size))
  have HSM := Lib.hid (fun w' => Small_c E.pkg w' hpk)
  simp only [mdlCells, tyCells] at HCK HMY HT ⊢
  clear hE ht hpk
  have HK := Lib.hid hk
  have HC := Lib.hid hc
  clear hk hc
  obtain ⟨hck, hwell, hmm, hmy, hsm, hj1, hj2, hel⟩ := well_of ha
  have HA := Lib.hid ha
  have HWELL := Lib.hid hwell
  have HMM := Lib.hid hmm
  have HMAY := Lib.hid hmy
  have HSMB := Lib.hid hsm
  have hck2 : ∀ w', Below w.heap.size w w' → Calls Tryz.prog 22 #[.agg #[.string E.m.name, .slice ia E.m.imps.length ic, .slice da E.m.decls.length dc]] w' fun e w'' => e = .returned .nilIface ∧ Below w'.heap.size w' w'' := fun w' hb => (HCK.out w' hb).mono fun e w'' ⟨v, h1, h2, h3⟩ => by rw [hck] at h2; exact ⟨h1.trans (by rw [show v = .nilIface from h2]), h3⟩
  have HCK := Lib.hid hck2
  clear hck2
  simp only [hmy] at HMY
  simp only [hsm] at HSM
  have h1 : ¬ E.major < 1 := by omega
  have h2 : ¬ 999999999 < E.major := by omega
  have h3 : ¬ 100 < (E.env.length : Int) := by omega
  clear ha hck hwell hmm hmy hsm
  go_enter Tryz.func24, Tryz.ntmps24
  go_upto_region 1 with fail
  obtain ⟨W, hWq, d0, d1, d2, hz, hb⟩ := threeMX w #[.string E.m.name, .slice ia E.m.imps.length ic, .slice da E.m.decls.length dc] #[.int .i64 t.kind, .string t.pkg, .int .i64 t.major, .string t.mod, .string t.name, .slice na t.names.length nc, .slice sa t.subs.length sc] #[.int .i64 0, .string { data := #[] }, .int .i64 0, .string { data := #[] }, .string { data := #[] }, .slice none 0 0, .slice none 0 0] 25 53 53
  rewrite [← hWq]; clear hWq
  have B0 := Lib.hid hb
  have D0 := Lib.hid d0
  have D1 := Lib.hid d1
  have D2 := Lib.hid d2
  obtain ⟨m0, m1, m2⟩ := cellsT3 d0
  have ml := d0.lt
  clear hb d0 d1 d2
  have hWw : w.heap.size ≤ W.heap.size := by omega
  have BC := Lib.hid (Below.refl W.heap.size W)
  have p0 := D0.out.under BC.out D0.out.lt
  have p1 := D1.out.under BC.out D1.out.lt
  have p2 := D2.out.under BC.out D2.out.lt
  obtain ⟨m0, m1, m2⟩ := cellsT3 p0
  have ml := p0.lt
  obtain ⟨k0, k1, k2, k3, k4, k5, k6⟩ := cellsT7 p1
  have kl := p1.lt
  obtain ⟨e0, e1, e2, e3, e4, e5, e6⟩ := cellsT7 p2
  have g0 := p2.free 0
  have g1 := p2.free 1
  have g2 := p2.free 2
  have g3 := p2.free 3
  have g4 := p2.free 4
  have g5 := p2.free 5
  have g6 := p2.free 6
  have le := p2.lt
  clear p0 p1 p2
  go_upto_region 4 with (first | (go_at_call 22; refine (HCK.out _ (B0.out.trans (BC.out.mono hWw))).mono ?_; rintro e wn ⟨rfl, hb⟩; have BC := Lib.hid (BC.out.trans (hb.mono BC.out.size)); clear hb; clear m0 m1 m2 ml k0 k1 k2 k3 k4 k5 k6 kl e0 e1 e2 e3 e4 e5 e6 g0 g1 g2 g3 g4 g5 g6 le; have p0 := D0.out.under BC.out D0.out.lt; have p1 := D1.out.under BC.out D1.out.lt; have p2 := D2.out.under BC.out D2.out.lt; obtain ⟨m0, m1, m2⟩ := cellsT3 p0; have ml := p0.lt; obtain ⟨k0, k1, k2, k3, k4, k5, k6⟩ := cellsT7 p1; have kl := p1.lt; obtain ⟨e0, e1, e2, e3, e4, e5, e6⟩ := cellsT7 p2; have g0 := p2.free 0; have g1 := p2.free 1; have g2 := p2.free 2; have g3 := p2.free 3; have g4 := p2.free 4; have g5 := p2.free 5; have g6 := p2.free 6; have le := p2.lt; clear p0 p1 p2) | (go_at_call 48; refine (HMY.out _ (B0.out.trans (BC.out.mono hWw))).mono ?_; rintro e wn ⟨rfl, hb⟩; have BC := Lib.hid (BC.out.trans (hb.mono BC.out.size)); clear hb; clear m0 m1 m2 ml k0 k1 k2 k3 k4 k5 k6 kl e0 e1 e2 e3 e4 e5 e6 g0 g1 g2 g3 g4 g5 g6 le; have p0 := D0.out.under BC.out D0.out.lt; have p1 := D1.out.under BC.out D1.out.lt; have p2 := D2.out.under BC.out D2.out.lt; obtain ⟨m0, m1, m2⟩ := cellsT3 p0; have ml := p0.lt; obtain ⟨k0, k1, k2, k3, k4, k5, k6⟩ := cellsT7 p1; have kl := p1.lt; obtain ⟨e0, e1, e2, e3, e4, e5, e6⟩ := cellsT7 p2; have g0 := p2.free 0; have g1 := p2.free 1; have g2 := p2.free 2; have g3 := p2.free 3; have g4 := p2.free 4; have g5 := p2.free 5; have g6 := p2.free 6; have le := p2.lt; clear p0 p1 p2) | (go_at_call 23; refine (HSM.out _).mono ?_; rintro e wn ⟨rfl, hb⟩; have BC := Lib.hid (BC.out.trans (hb.mono BC.out.size)); clear hb; clear m0 m1 m2 ml k0 k1 k2 k3 k4 k5 k6 kl e0 e1 e2 e3 e4 e5 e6 g0 g1 g2 g3 g4 g5 g6 le; have p0 := D0.out.under BC.out D0.out.lt; have p1 := D1.out.under BC.out D1.out.lt; have p2 := D2.out.under BC.out D2.out.lt; obtain ⟨m0, m1, m2⟩ := cellsT3 p0; have ml := p0.lt; obtain ⟨k0, k1, k2, k3, k4, k5, k6⟩ := cellsT7 p1; have kl := p1.lt; obtain ⟨e0, e1, e2, e3, e4, e5, e6⟩ := cellsT7 p2; have g0 := p2.free 0; have g1 := p2.free 1; have g2 := p2.free 2; have g3 := p2.free 3; have g4 := p2.free 4; have g5 := p2.free 5; have g6 := p2.free 6; have le := p2.lt; clear p0 p1 p2))
  obtain ⟨b5, h5, hz5⟩ := laidN wn #[.string E.m.name, .slice ia E.m.imps.length ic, .slice da E.m.decls.length dc, .string E.pkg, .int .i64 E.major, .slice ea E.env.length ec, .int .i64 500, .bool false] 96
  have lX : w.heap.size + 1 + 1 + 1 ≤ wn.heap.size := by have := BC.out.size; omega
  generalize (wn.alloc (.cells #[.string E.m.name, .slice ia E.m.imps.length ic, .slice da E.m.decls.length dc, .string E.pkg, .int .i64 E.major, .slice ea E.env.length ec, .int .i64 500, .bool false] 96)) = W5 at b5 h5 hz5 ⊢
  generalize wn.heap.size = X at *
  have BC := Lib.hid (BC.out.trans (h5.mono (show W.heap.size ≤ X by omega)))
  clear kl k0 k1 k2 k3 k4 k5 k6 e0 e1 e2 e3 e4 e5 e6 g0 g1 g2 g3 g4 g5 g6 le
  clear m0 m1 m2 ml
  have p1 := D1.out.under BC.out D1.out.lt
  have p2 := D2.out.under BC.out D2.out.lt
  obtain ⟨k0, k1, k2, k3, k4, k5, k6⟩ := cellsT7 p1
  have kl := p1.lt
  obtain ⟨e0, e1, e2, e3, e4, e5, e6⟩ := cellsT7 p2
  have g0 := p2.free 0
  have g1 := p2.free 1
  have g2 := p2.free 2
  have g3 := p2.free 3
  have g4 := p2.free 4
  have g5 := p2.free 5
  have g6 := p2.free 6
  have le := p2.lt
  clear p1 p2
  have hEX : ExA W5 B X E ia ic da dc ea ec 500 false := ⟨b5, HE.out.mdl.under (((B0.out.trans (BC.out.mono hWw)).mono hB)), HE.out.env.under (((B0.out.trans (BC.out.mono hWw)).mono hB)), by omega, HE.out.nd, HE.out.ni, HE.out.ne, HE.out.nt⟩
  have HX5 := Lib.hid hEX
  have BB := Lib.hid ((B0.out.trans (BC.out.mono hWw)).mono hB)
  have hBw : B ≤ W5.heap.size := hEX.base
  have B5 := Lib.hid (Below.refl W5.heap.size W5)
  have hmt : manyT t ≤ 1000000 := by have := (may_all HMAY.out).2.1; omega
  have hea := fun w' (hb : Below W5.heap.size W5 w') => each_c 50 (.pointer (some ⟨X, 0, none⟩)) (knownL E.m) B (by intro a w; rfl) t _ w' ((HT.out.under BB.out).under (hb.mono hBw)) (Nat.le_trans hBw hb.size) hmt (fun w2 hb2 l _ cs' hl => xKnown_c B X E ia ic da dc ea ec 500 false l cs' w2 ((HX5.out.under hb).under hb2) hl)
  simp only [show (localsT t).all (knownL E.m) = true from HK.out] at hea
  have HEA := Lib.hid hea
  clear hea hEX b5 h5 hmt
  have hco := fun w' (hb : Below W5.heap.size W5 w') => xCompl_c B X E ia ic da dc ea ec 500 false t _ w' (HX5.out.under hb) ((HT.out.under BB.out).under (hb.mono hBw)) HMM.out HMAY.out
  simp only [HC.out] at hco
  have HCO := Lib.hid hco
  clear hco
  obtain ⟨x, hx⟩ := exp_of HA.out HK.out HC.out
  have HXX := Lib.hid hx
  have htp := fun w' (hb : Below W5.heap.size W5 w') => typ_c (mayM_iff.1 HMM.out).2.2.2.2 HSMB.out (by omega) (by omega) (mayM_iff.1 HMM.out).1 HE.out.pk hx (may_all HMAY.out).1 B X ia ic da dc ea ec 500 1 false _ w' (HX5.out.under hb) ((HT.out.under BB.out).under (hb.mono hBw)) ⟨by omega, by omega, by omega, (fun h => by cases h), fun _ => by omega⟩
  have HTP := Lib.hid htp
  clear htp hx
  go_upto_region 9 with (first | (go_at_call 49; refine (HEA.out _ B5.out).mono ?_; rintro e wn ⟨rfl, hb⟩; have BC := Lib.hid (BC.out.trans (hb.mono BC.out.size)); have B5 := Lib.hid (B5.out.trans (hb.mono B5.out.size)); clear hb; clear kl k0 k1 k2 k3 k4 k5 k6 e0 e1 e2 e3 e4 e5 e6 g0 g1 g2 g3 g4 g5 g6 le; have p1 := D1.out.under BC.out D1.out.lt; have p2 := D2.out.under BC.out D2.out.lt; obtain ⟨k0, k1, k2, k3, k4, k5, k6⟩ := cellsT7 p1; have kl := p1.lt; obtain ⟨e0, e1, e2, e3, e4, e5, e6⟩ := cellsT7 p2; have g0 := p2.free 0; have g1 := p2.free 1; have g2 := p2.free 2; have g3 := p2.free 3; have g4 := p2.free 4; have g5 := p2.free 5; have g6 := p2.free 6; have le := p2.lt; clear p1 p2) | (go_at_call 51; refine (HCO.out _ B5.out).mono ?_; rintro e wn ⟨rfl, hb⟩; have BC := Lib.hid (BC.out.trans (hb.mono BC.out.size)); have B5 := Lib.hid (B5.out.trans (hb.mono B5.out.size)); clear hb; clear kl k0 k1 k2 k3 k4 k5 k6 e0 e1 e2 e3 e4 e5 e6 g0 g1 g2 g3 g4 g5 g6 le; have p1 := D1.out.under BC.out D1.out.lt; have p2 := D2.out.under BC.out D2.out.lt; obtain ⟨k0, k1, k2, k3, k4, k5, k6⟩ := cellsT7 p1; have kl := p1.lt; obtain ⟨e0, e1, e2, e3, e4, e5, e6⟩ := cellsT7 p2; have g0 := p2.free 0; have g1 := p2.free 1; have g2 := p2.free 2; have g3 := p2.free 3; have g4 := p2.free 4; have g5 := p2.free 5; have g6 := p2.free 6; have le := p2.lt; clear p1 p2) | (go_at_call 52; refine (HTP.out _ B5.out).mono ?_; rintro e wn ⟨cs1, y, L', g', rfl, hty, hex, hfr, hpost⟩; obtain ⟨na3, nc3, sa3, sc3, f3, rfl, -⟩ := hty.inv; simp only [tyCells]; have HTY := Lib.hid (hty.mono (fun b hb => (show W5.heap.size ≤ b ∧ b < wn.heap.size from ⟨Nat.le_trans B5.out.size hb.1, hb.2⟩))); have HEX := Lib.hid hex; have HPO := Lib.hid hpost; have BC := Lib.hid (BC.out.trans (hfr.below (B := W.heap.size) (fun b e => by have e : b = X := e; omega) BC.out.size)); clear hty hex hfr hpost; clear kl k0 k1 k2 k3 k4 k5 k6 e0 e1 e2 e3 e4 e5 e6 g0 g1 g2 g3 g4 g5 g6 le; have p1 := D1.out.under BC.out D1.out.lt; have p2 := D2.out.under BC.out D2.out.lt; obtain ⟨k0, k1, k2, k3, k4, k5, k6⟩ := cellsT7 p1; have kl := p1.lt; obtain ⟨e0, e1, e2, e3, e4, e5, e6⟩ := cellsT7 p2; have g0 := p2.free 0; have g1 := p2.free 1; have g2 := p2.free 2; have g3 := p2.free 3; have g4 := p2.free 4; have g5 := p2.free 5; have g6 := p2.free 6; have le := p2.lt; clear p1 p2))
  obtain ⟨W9, hWq, b9, h9, hz9⟩ := laidNX wn #[.int .i64 y.kind, .string y.pkg, .int .i64 y.major, .string y.mod, .string y.name, .slice na3 y.names.length nc3, .slice sa3 y.subs.length sc3] 53
  rewrite [← hWq]; clear hWq
  have hWn : W.heap.size ≤ wn.heap.size := BC.out.size
  have lXn : X < wn.heap.size := HEX.out.blk.lt
  have HX9 := Lib.hid (HEX.out.under h9)
  have BC := Lib.hid (BC.out.trans (h9.mono hWn))
  clear kl k0 k1 k2 k3 k4 k5 k6 e0 e1 e2 e3 e4 e5 e6 g0 g1 g2 g3 g4 g5 g6 le
  have p1 := D1.out.under BC.out D1.out.lt
  have p2 := D2.out.under BC.out D2.out.lt
  obtain ⟨k0, k1, k2, k3, k4, k5, k6⟩ := cellsT7 p1
  have kl := p1.lt
  obtain ⟨e0, e1, e2, e3, e4, e5, e6⟩ := cellsT7 p2
  have g0 := p2.free 0
  have g1 := p2.free 1
  have g2 := p2.free 2
  have g3 := p2.free 3
  have g4 := p2.free 4
  have g5 := p2.free 5
  have g6 := p2.free 6
  have le := p2.lt
  clear p1 p2
  have HTY9 := Lib.hid (HTY.out.move (M' := fun b => W5.heap.size ≤ b ∧ b < W9.heap.size) (fun b hb => ⟨hb.1, by have := hb.2; omega⟩) (fun p hp => h9.cell hp.2))
  have x7 := HX9.out.blk.cell 7
  simp at x7
  have lx := HX9.out.blk.lt
  obtain ⟨q0, q1, q2, q3, q4, q5, q6⟩ := cellsT7 b9
  have lq := b9.lt
  have hW5 : w.heap.size ≤ W5.heap.size := by have := HX5.out.blk.lt; omega
  clear b9 h9
  rcases HPO.out with ⟨h, -⟩ | ⟨-, hfit, rfl, -, rfl⟩ | ⟨-, hfit, rfl, -, -⟩
  · cases h
  · have HFT := Lib.hid hfit
    clear hfit HPO
    go_wp2_with fail
    obtain ⟨Wz, hWq, hp, hbp, hfz⟩ := sf7 (.int .i64 y.kind) (.string y.pkg) (.int .i64 y.major) (.string y.mod) (.string y.name) (.slice na3 y.names.length nc3) (.slice sa3 y.subs.length sc3) (D2.out.under BC.out D2.out.lt) (B0.out.trans (BC.out.mono hWw)) (show w.heap.size ≤ w.heap.size + 1 + 1 by omega)
    rewrite [← hWq]; clear hWq
    obtain ⟨r0, r1, r2, r3, r4, r5, r6⟩ := cellsT7 hp
    refine bodyPost_ret (by simp [results, Tryz.results24, go_sem, r0, r1, r2, r3, r4, r5, r6]; try rfl) rfl ?_
    exact ⟨0, y, _, rfl, .inr (.inr (.inr ⟨HA.out, HK.out, HC.out, y, HXX.out, .inl ⟨⟨HFT.out.1, by have := HFT.out.2; omega⟩, rfl, rfl⟩⟩)), HTY9.out.move (fun b hb => ⟨by have := hb.1; omega, Nat.lt_of_lt_of_le hb.2 hfz.size⟩) (fun p hp => hfz.cell hp.2 (fun e => by have := hp.1; have e : p.block = w.heap.size + 1 + 1 := e; have := HX5.out.blk.lt; omega)), hbp⟩
  · have HFT := Lib.hid hfit
    clear hfit HPO
    go_wp2_with fail
    obtain ⟨Wz, hWq, hp, hbp⟩ := st7 (.int .i64 0) (.string { data := #[] }) (.int .i64 0) (.string { data := #[] }) (.string { data := #[] }) (.slice none 0 0) (.slice none 0 0) (D2.out.under BC.out D2.out.lt) (B0.out.trans (BC.out.mono hWw)) (show w.heap.size ≤ w.heap.size + 1 + 1 by omega)
    rewrite [← hWq]; clear hWq
    obtain ⟨r0, r1, r2, r3, r4, r5, r6⟩ := cellsT7 hp
    refine bodyPost_ret (by simp [results, Tryz.results24, go_sem, r0, r1, r2, r3, r4, r5, r6]; try rfl) rfl ?_
    exact ⟨3, zT, _, rfl, .inr (.inr (.inr ⟨HA.out, HK.out, HC.out, x, HXX.out, .inr ⟨fun hf => HFT.out ⟨hf.1, by have := hf.2; omega⟩, rfl, rfl⟩⟩)), zT_m _ _, hbp⟩
theorem expand_c (E : Env) (ia : Option Addr) (ic : Nat) (da : Option Addr) (dc : Nat) (ea : Option Addr) (ec : Nat) (B : Nat) (t : Ty) (cs : Array Value) (w : World) (hE : EnvC w B E ia ic da dc ea ec) (ht : TyC w B t cs) (hB : B ≤ w.heap.size) :
    Calls Tryz.prog 24 #[.agg (mdlCells E.m ia ic da dc), .string E.pkg, .int .i64 E.major, .slice ea E.env.length ec, .agg cs] w (ExpRet w E t) := by
  by_cases hck : checkF E.m = none
  · cases hmy : mayT t
    · exact exp_a2 E ia ic da dc ea ec B t cs w hE ht hB hck hmy
    · cases hsm : smallB E.pkg
      · exact exp_a3 E ia ic da dc ea ec B t cs w hE ht hB hck hmy hsm
      · by_cases h1 : E.major < 1
        · exact exp_a4 E ia ic da dc ea ec B t cs w hE ht hB hck hmy hsm h1
        · by_cases h2 : 999999999 < E.major
          · exact exp_a5 E ia ic da dc ea ec B t cs w hE ht hB hck hmy hsm h1 h2
          · by_cases h3 : 100 < (E.env.length : Int)
            · exact exp_a6 E ia ic da dc ea ec B t cs w hE ht hB hck hmy hsm h1 h2 h3
            · have ha : argB E t = true := by
                rw [argB, hck, hmy, hsm, decide_eq_true (show 1 ≤ E.major by omega), decide_eq_true (show E.major ≤ 999999999 by omega), decide_eq_true (show E.env.length ≤ 100 by omega)]; rfl
              cases hk : knownB E t
              · exact exp_b1 E ia ic da dc ea ec B t cs w hE ht hB ha hk
              · cases hc : complB E t
                · exact exp_b2 E ia ic da dc ea ec B t cs w hE ht hB ha hk hc
                · exact exp_b3 E ia ic da dc ea ec B t cs w hE ht hB ha hk hc
  · exact exp_a1 E ia ic da dc ea ec B t cs w hE ht hB hck
end Go.Proofs.YtjeldfipipkfiaaGreat
