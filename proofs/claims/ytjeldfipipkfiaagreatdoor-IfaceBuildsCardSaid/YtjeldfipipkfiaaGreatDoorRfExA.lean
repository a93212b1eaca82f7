/- The contract of merlonref08.Expand at Locals: what a type comes to, if it fits. -/
import Derived.Test.YtjeldfipipkfiaaGreatDoorRfExL
import Derived.Test.YtjeldfipipkfiaaGreatDoorRfLoc
namespace Go.Proofs.YtjeldfipipkfiaaGreatDoor
open Go.RowKit
set_option linter.unusedSimpArgs false
set_option linter.unusedVariables false
structure RxC (w : World) (B : Nat) (E : Env) (ia : Option Addr) (ic : Nat) (da : Option Addr) (dc : Nat) (ea : Option Addr) (ec : Nat) : Prop where
  mdl : MdlC w B E.m ia ic da dc
  env : IfsAt w B ea E.env
  nd : E.m.decls.length ≤ 1000000
  ni : E.m.imps.length ≤ 1000000
  few : FewI E.env = true
theorem RxC.under {w w' : World} {B : Nat} {E : Env} {ia : Option Addr} {ic : Nat} {da : Option Addr} {dc : Nat} {ea : Option Addr} {ec : Nat} (h : RxC w B E ia ic da dc ea ec) (hb : Below B w w') : RxC w' B E ia ic da dc ea ec := ⟨h.mdl.under hb, h.env.under hb, h.nd, h.ni, h.few⟩
def RexRet (w : World) (x : Ty) (most depth : Int) (e : Ending) (w' : World) : Prop := ∃ cs' y n, e = .returned (.tuple #[.agg cs', .int .i64 n]) ∧ RexRes x most depth y n ∧ TyM w' (Fresh w w') y cs' ∧ Below w.heap.size w w'
def RexF (E : Env) (t x : Ty) : Prop := ∀ (B : Nat) (ia : Option Addr) (ic : Nat) (da : Option Addr) (dc : Nat) (ea : Option Addr) (ec : Nat) (most depth : Int) (cs : Array Value) (w : World), RxC w B E ia ic da dc ea ec → TyC w B t cs → B ≤ w.heap.size → 0 ≤ most → most ≤ 500 → 0 ≤ depth → depth ≤ 32 →
  Calls Tryz.prog 77 #[.agg (mdlCells E.m ia ic da dc), .string E.pkg, .int .i64 E.major, .slice ea E.env.length ec, .agg cs, .int .i64 most, .int .i64 depth] w (RexRet w x most depth)
theorem rx_fin {w W w1 Wz : World} {G : Nat} {y : Ty} {cs : Array Value} (hty : TyM w1 (Fresh W w1) y cs) (hG : G < W.heap.size) (hw : w.heap.size ≤ W.heap.size) (hz : Wz.heap.size = w1.heap.size) (hcc : ∀ p : Addr, p.block ≠ G → Wz.cell? p = w1.cell? p) : TyM Wz (Fresh w Wz) y cs :=
  hty.move (fun b hb => ⟨Nat.le_trans hw hb.1, by rw [hz]; exact hb.2⟩) fun p hp => hcc p (by have := hp.1; omega)
theorem rx_fin2 {w W w1 Wz : World} {y : Ty} {cs : Array Value} (hty : TyM w1 (Fresh W w1) y cs) (hw : w.heap.size ≤ W.heap.size) (hb : Below w1.heap.size w1 Wz) : TyM Wz (Fresh w Wz) y cs :=
  hty.move (fun b hb' => ⟨Nat.le_trans hw hb'.1, Nat.lt_of_lt_of_le hb'.2 hb.size⟩) fun p hp => hb.cell hp.2
theorem tyCells_inj {t : Ty} {na na' sa sa' : Option Addr} {nc nc' sc sc' : Nat} (h : tyCells t na nc sa sc = tyCells t na' nc' sa' sc') : na = na' ∧ nc = nc' ∧ sa = sa' ∧ sc = sc' := by
  simp [tyCells] at h
  exact ⟨h.1.1, h.1.2, h.2.1, h.2.2⟩
theorem rex_there {E : Env} {t x : Ty} (h8 : t.kind = 8) (hm : t.mod.toList.isEmpty = false) (h : RexF E (thereF E.m E.env t).1 x) : RexF E t x := by
  intro B ia ic da dc ea ec most depth cs w hE ht hB p1 p2 p3 p4
  have hc8 : (t.kind == 8) = true := by simp [h8]
  obtain ⟨na, nc, sa, sc, f0, rfl, hft, -⟩ := ht.inv
  obtain ⟨⟨s, q⟩, hs⟩ : ∃ r, thereF E.m E.env t = r := ⟨_, rfl⟩
  rw [hs] at h
  have hth := fun W' (hb : Below w.heap.size w W') => refThere_c B E.m ia ic da dc E.env ea ec t _ W' (hE.mdl.under (hb.mono hB)) hE.ni (hE.env.under (hb.mono hB)) hE.few (ht.under (hb.mono hB)) (Nat.le_trans hB hb.size)
  have hx := fun W' cs' (hb : Below w.heap.size w W') (ht' : TyC W' B s cs') => h B ia ic da dc ea ec most depth cs' W' (hE.under (hb.mono hB)) ht' (Nat.le_trans hB hb.size) p1 p2 p3 p4
  simp only [hs, mdlCells, tyCells] at hth
  simp only [mdlCells] at hx
  have HTH := Lib.hid hth
  have HX := Lib.hid hx
  simp only [mdlCells, tyCells]
  clear hE ht h hs hth hx h8 hft
  go_enter Tryz.func77, Tryz.ntmps77
  go_upto_region 1 with fail
  obtain ⟨W, hWq, d0, d1, d2, hz, hb⟩ := threeMX w #[.string E.m.name, .slice ia E.m.imps.length ic, .slice da E.m.decls.length dc] #[.int .i64 t.kind, .string t.pkg, .int .i64 t.major, .string t.mod, .string t.name, .slice na t.names.length nc, .slice sa t.subs.length sc] #[.int .i64 0, .string { data := #[] }, .int .i64 0, .string { data := #[] }, .string { data := #[] }, .slice none 0 0, .slice none 0 0] 25 29 29
  rewrite [← hWq]; clear hWq
  have BC := Lib.hid hb
  have D0 := Lib.hid d0
  have D1 := Lib.hid d1
  have D2 := Lib.hid d2
  clear hb d0 d1 d2
  obtain ⟨m0, m1, m2⟩ := cellsT3 D0.out
  have ml := D0.out.lt
  obtain ⟨k0, k1, k2, k3, k4, k5, k6⟩ := cellsT7 D1.out
  have kl := D1.out.lt
  obtain ⟨e0, e1, e2, e3, e4, e5, e6⟩ := cellsT7 D2.out
  have el := D2.out.lt
  go_upto_region 4 with (go_at_call 133; refine (HTH.out _ BC.out).mono ?_; rintro e wn ⟨cs5, rfl, hty, hb⟩; obtain ⟨na3, nc3, sa3, sc3, f3, rfl, -⟩ := hty.inv; simp only [tyCells]; have HS := Lib.hid hty; clear hty; have D0 := Lib.hid (D0.out.under hb D0.out.lt); have D1 := Lib.hid (D1.out.under hb D1.out.lt); have D2 := Lib.hid (D2.out.under hb D2.out.lt); have BC := Lib.hid (BC.out.trans (hb.mono BC.out.size)); clear hb; clear m0 m1 m2 k0 k1 k2 k3 k4 k5 k6 e0 e1 e2 e3 e4 e5 e6 ml kl el; obtain ⟨m0, m1, m2⟩ := cellsT3 D0.out; have ml := D0.out.lt; obtain ⟨k0, k1, k2, k3, k4, k5, k6⟩ := cellsT7 D1.out; have kl := D1.out.lt; obtain ⟨e0, e1, e2, e3, e4, e5, e6⟩ := cellsT7 D2.out; have el := D2.out.lt)
  clear m0 m1 m2 k0 k1 k2 k3 k4 k5 k6 e0 e1 e2 e3 e4 e5 e6 ml kl el
  obtain ⟨W4, hWq, bN, hb, hzN⟩ := laidNX wn #[.int .i64 s.kind, .string s.pkg, .int .i64 s.major, .string s.mod, .string s.name, .slice na3 s.names.length nc3, .slice sa3 s.subs.length sc3] 29
  rewrite [← hWq]; clear hWq
  have D0 := Lib.hid (D0.out.under hb D0.out.lt)
  have D1 := Lib.hid (D1.out.under hb D1.out.lt)
  have D2 := Lib.hid (D2.out.under hb D2.out.lt)
  have HS := Lib.hid (HS.out.under (hb.mono (Nat.le_trans hB BC.out.size)))
  have hwn : w.heap.size + 1 + 1 + 1 ≤ W4.heap.size := by have := D2.out.lt; omega
  have BC := Lib.hid (BC.out.trans (hb.mono BC.out.size))
  have D3 := Lib.hid bN
  clear bN hb hzN
  obtain ⟨m0, m1, m2⟩ := cellsT3 D0.out
  have ml := D0.out.lt
  obtain ⟨k0, k1, k2, k3, k4, k5, k6⟩ := cellsT7 D1.out
  have kl := D1.out.lt
  obtain ⟨e0, e1, e2, e3, e4, e5, e6⟩ := cellsT7 D2.out
  have el := D2.out.lt
  obtain ⟨q0, q1, q2, q3, q4, q5, q6⟩ := cellsT7 D3.out
  have ql := D3.out.lt
  have hX := HX.out _ _ BC.out HS.out
  simp only [tyCells] at hX
  have HXX := Lib.hid hX
  clear hX HX
  go_wp2_with (go_at_call 77; refine (HXX.out).mono ?_; rintro e wn ⟨cs1, y, n, rfl, hpo, hty, hb⟩; obtain ⟨na1, nc1, sa1, sc1, f1, rfl, -⟩ := hty.inv; simp only [tyCells]; have HTY := Lib.hid hty; have HPO := Lib.hid hpo; clear hty hpo; have D0 := Lib.hid (D0.out.under hb D0.out.lt); have D1 := Lib.hid (D1.out.under hb D1.out.lt); have D2 := Lib.hid (D2.out.under hb D2.out.lt); have D3 := Lib.hid (D3.out.under hb D3.out.lt); have BC := Lib.hid (BC.out.trans (hb.mono BC.out.size)); have f0 := D2.out.free 0; have f1 := D2.out.free 1; have f2 := D2.out.free 2; have f3 := D2.out.free 3; have f4 := D2.out.free 4; have f5 := D2.out.free 5; have f6 := D2.out.free 6; clear hb; clear m0 m1 m2 k0 k1 k2 k3 k4 k5 k6 e0 e1 e2 e3 e4 e5 e6 q0 q1 q2 q3 q4 q5 q6 ml kl el ql; obtain ⟨m0, m1, m2⟩ := cellsT3 D0.out; have ml := D0.out.lt; obtain ⟨k0, k1, k2, k3, k4, k5, k6⟩ := cellsT7 D1.out; have kl := D1.out.lt; obtain ⟨e0, e1, e2, e3, e4, e5, e6⟩ := cellsT7 D2.out; have el := D2.out.lt; obtain ⟨q0, q1, q2, q3, q4, q5, q6⟩ := cellsT7 D3.out; have ql := D3.out.lt)
  have hp := pf7 (.int .i64 y.kind) (.string y.pkg) (.int .i64 y.major) (.string y.mod) (.string y.name) (.slice na1 y.names.length nc1) (.slice sa1 y.subs.length sc1) D2.out
  have hbp := pb7 (.int .i64 y.kind) (.string y.pkg) (.int .i64 y.major) (.string y.mod) (.string y.name) (.slice na1 y.names.length nc1) (.slice sa1 y.subs.length sc1) BC.out (show w.heap.size ≤ w.heap.size + 1 + 1 by omega)
  have hcc := fun (p : Addr) (hp : p.block ≠ w.heap.size + 1 + 1) => pc7 (w := wn) (.int .i64 y.kind) (.string y.pkg) (.int .i64 y.major) (.string y.mod) (.string y.name) (.slice na1 y.names.length nc1) (.slice sa1 y.subs.length sc1) hp
  have hsz := ps7 wn (g := w.heap.size + 1 + 1) (.int .i64 y.kind) (.string y.pkg) (.int .i64 y.major) (.string y.mod) (.string y.name) (.slice na1 y.names.length nc1) (.slice sa1 y.subs.length sc1)
  generalize (((((((wn.setCell ⟨w.heap.size + 1 + 1, 0, none⟩ (.int .i64 y.kind)).setCell ⟨w.heap.size + 1 + 1, 1, none⟩ (.string y.pkg)).setCell ⟨w.heap.size + 1 + 1, 2, none⟩ (.int .i64 y.major)).setCell ⟨w.heap.size + 1 + 1, 3, none⟩ (.string y.mod)).setCell ⟨w.heap.size + 1 + 1, 4, none⟩ (.string y.name)).setCell ⟨w.heap.size + 1 + 1, 5, none⟩ (.slice na1 y.names.length nc1)).setCell ⟨w.heap.size + 1 + 1, 6, none⟩ (.slice sa1 y.subs.length sc1)) = Wz at hp hbp hcc hsz ⊢
  obtain ⟨r0, r1, r2, r3, r4, r5, r6⟩ := cellsT7 hp
  refine bodyPost_ret (by simp [results, Tryz.results77, go_sem, r0, r1, r2, r3, r4, r5, r6]; try rfl) rfl ?_
  exact ⟨_, y, n, rfl, HPO.out, rx_fin HTY.out (by omega) (by omega) hsz hcc, hbp⟩
theorem decl_at {E : Env} {s : ByteArray} {d : Dcl} (h : declOf E.m.decls s = some d) : ∃ j, ∃ hj : j < E.m.decls.length, E.m.decls[j] = d ∧ idxP (isT s) E.m.decls = ((j : Nat) : Int) := by
  rw [declOf_at] at h
  cases hf : findD E.m.decls s with
  | none => rw [hf] at h; cases h
  | some k =>
    obtain ⟨hk, -, -⟩ := findD_name hf
    rw [hf] at h
    simp only [Option.bind_some, List.getElem?_eq_getElem hk] at h
    exact ⟨k, hk, Option.some.inj h, by rw [findF_idx, hf]⟩
set_option maxRecDepth 100000 in
set_option maxHeartbeats 40000000 in
theorem rex_alias {E : Env} {t x : Ty} {d : Dcl} (h8 : t.kind = 8) (hm : t.mod.toList.isEmpty = true) (hd : declOf E.m.decls t.name = some d) (h3 : d.kind = 3) (h : RexF E d.ty x) : RexF E t x := by
  intro B ia ic da dc ea ec most depth cs w hE ht hB p1 p2 p3 p4
  have hc8 : (t.kind == 8) = true := by simp [h8]
  obtain ⟨na, nc, sa, sc, f0, rfl, hft, -⟩ := ht.inv
  have hc3 : (d.kind == 3) = true := by simp [h3]
  have HE := Lib.hid hE
  have HD := Lib.hid hd
  have hx := fun W' cs' (hb : Below w.heap.size w W') (ht' : TyC W' B d.ty cs') => h B ia ic da dc ea ec most depth cs' W' (hE.under (hb.mono hB)) ht' (Nat.le_trans hB hb.size) p1 p2 p3 p4
  simp only [mdlCells] at hx
  have HX := Lib.hid hx
  simp only [mdlCells, tyCells]
  clear hE ht h hd hx h8 h3 hft
  go_enter Tryz.func77, Tryz.ntmps77
  go_upto_region 1 with fail
  obtain ⟨W, hWq, d0, d1, d2, hz, hb⟩ := threeMX w #[.string E.m.name, .slice ia E.m.imps.length ic, .slice da E.m.decls.length dc] #[.int .i64 t.kind, .string t.pkg, .int .i64 t.major, .string t.mod, .string t.name, .slice na t.names.length nc, .slice sa t.subs.length sc] #[.int .i64 0, .string { data := #[] }, .int .i64 0, .string { data := #[] }, .string { data := #[] }, .slice none 0 0, .slice none 0 0] 25 29 29
  rewrite [← hWq]; clear hWq
  have BC := Lib.hid hb
  have D0 := Lib.hid d0
  have D1 := Lib.hid d1
  have D2 := Lib.hid d2
  clear hb d0 d1 d2
  obtain ⟨m0, m1, m2⟩ := cellsT3 D0.out
  have ml := D0.out.lt
  obtain ⟨k0, k1, k2, k3, k4, k5, k6⟩ := cellsT7 D1.out
  have kl := D1.out.lt
  obtain ⟨e0, e1, e2, e3, e4, e5, e6⟩ := cellsT7 D2.out
  have el := D2.out.lt
  have hfi := fun W' (hb : Below W.heap.size W W') => rFindD_c E.m t.name ia ic da dc B W' (HE.out.mdl.under ((BC.out.trans (hb.mono BC.out.size)).mono hB)) (Nat.le_trans (Nat.le_trans hB BC.out.size) hb.size) HE.out.nd
  obtain ⟨j, hj, hjd, hix⟩ := decl_at HD.out
  simp only [hix, mdlCells] at hfi
  have hjI : (j : Int) < (E.m.decls.length : Int) := by omega
  have hj0 : (0 : Int) ≤ (j : Int) := by omega
  obtain ⟨-, bd, od, na4, nc4, sa4, sc4, hda, hbd, htd, c0, c1, c2, c3, c4, c5, c6, c7, c8⟩ := (HE.out.mdl.under (BC.out.mono hB)).decls.elem hj hjd
  obtain rfl := hda
  have HFI := Lib.hid hfi
  have HTD := Lib.hid htd
  have lbd : bd < W.heap.size := by have := BC.out.size; omega
  have lm := D0.out.lt
  have lk := D1.out.lt
  clear hfi hix htd
  go_upto_region 5 with fail
  go_cut [18] (fun v w4 => ∃ b4 : Nat, v = .pointer (some ⟨b4, 0, none⟩) ∧ W.heap.size ≤ b4 ∧ Blk w4 b4 #[.int .i64 d.kind, .string d.name, .int .i64 d.ty.kind, .string d.ty.pkg, .int .i64 d.ty.major, .string d.ty.mod, .string d.ty.name, .slice na4 d.ty.names.length nc4, .slice sa4 d.ty.subs.length sc4] 45 ∧ Below W.heap.size W w4)
  case first =>
    refine wp_region_until [(5, fun w' => w'.cell? ⟨w.heap.size, 0, none⟩ = some (.string E.m.name) ∧ w'.cell? ⟨w.heap.size, 1, none⟩ = some (.slice ia E.m.imps.length ic) ∧ w'.cell? ⟨w.heap.size, 2, none⟩ = some (.slice (some ⟨bd, od, none⟩) E.m.decls.length dc) ∧ w'.cell? ⟨w.heap.size + 1, 4, none⟩ = some (.string t.name)), (9, fun w' => w'.cell? ⟨w.heap.size, 2, none⟩ = some (.slice (some ⟨bd, od, none⟩) E.m.decls.length dc) ∧ w'.cell? ⟨bd, od + j * 9, none⟩ = some (.int .i64 d.kind) ∧ w'.cell? ⟨bd, od + j * 9 + 1, none⟩ = some (.string d.name) ∧ w'.cell? ⟨bd, od + j * 9 + 2, none⟩ = some (.int .i64 d.ty.kind) ∧ w'.cell? ⟨bd, od + j * 9 + 3, none⟩ = some (.string d.ty.pkg) ∧ w'.cell? ⟨bd, od + j * 9 + 4, none⟩ = some (.int .i64 d.ty.major) ∧ w'.cell? ⟨bd, od + j * 9 + 5, none⟩ = some (.string d.ty.mod) ∧ w'.cell? ⟨bd, od + j * 9 + 6, none⟩ = some (.string d.ty.name) ∧ w'.cell? ⟨bd, od + j * 9 + 7, none⟩ = some (.slice na4 d.ty.names.length nc4) ∧ w'.cell? ⟨bd, od + j * 9 + 8, none⟩ = some (.slice sa4 d.ty.subs.length sc4))] (by kernel_rfl) (Until.cons (fun _ => ⟨m0, m1, m2, k4⟩) (Until.cons (fun _ => ⟨m2, c0, c1, c2, c3, c4, c5, c6, c7, c8⟩) Until.nil)) (fun hU => ?_)
    refine AnyU.take (i := 0) (v := ?_) rfl (by kernel_rfl) (by kernel_rfl) (by kernel_rfl) (fun _ _ _ h => h) (by kernel_rfl) (by assumption) (by rfl) ?_ (fun hV => ?_)
    rotate_left 1
    · (intro wq; go_simp; try with_reducible rfl)
    clear hU; have hU := hV; clear hV
    try simp only [Act.put, aput]
    refine AnyU.loadc (i := 1) (d := 9) [6, 7, 9] (Si := fun w' => w'.cell? ⟨w.heap.size, 2, none⟩ = some (.slice (some ⟨bd, od, none⟩) E.m.decls.length dc) ∧ w'.cell? ⟨bd, od + j * 9, none⟩ = some (.int .i64 d.kind) ∧ w'.cell? ⟨bd, od + j * 9 + 1, none⟩ = some (.string d.name) ∧ w'.cell? ⟨bd, od + j * 9 + 2, none⟩ = some (.int .i64 d.ty.kind) ∧ w'.cell? ⟨bd, od + j * 9 + 3, none⟩ = some (.string d.ty.pkg) ∧ w'.cell? ⟨bd, od + j * 9 + 4, none⟩ = some (.int .i64 d.ty.major) ∧ w'.cell? ⟨bd, od + j * 9 + 5, none⟩ = some (.string d.ty.mod) ∧ w'.cell? ⟨bd, od + j * 9 + 6, none⟩ = some (.string d.ty.name) ∧ w'.cell? ⟨bd, od + j * 9 + 7, none⟩ = some (.slice na4 d.ty.names.length nc4) ∧ w'.cell? ⟨bd, od + j * 9 + 8, none⟩ = some (.slice sa4 d.ty.subs.length sc4)) (v := ?_) rfl (by kernel_rfl) (by kernel_rfl) (by kernel_rfl) (fun _ _ _ h => h) (by kernel_rfl) (by assumption) (by kernel_rfl) rfl (by simp) (by rfl) ?_ (fun hV => ?_)
    rotate_left 1
    · (intro wq hq; obtain ⟨u, -⟩ := hq; go_simp; try with_reducible rfl)
    clear hU; have hU := hV; clear hV
    try simp only [Act.put, aput]
    refine AnyU.loadc (i := 2) (d := 5) [5] (Si := fun w' => w'.cell? ⟨w.heap.size, 0, none⟩ = some (.string E.m.name) ∧ w'.cell? ⟨w.heap.size, 1, none⟩ = some (.slice ia E.m.imps.length ic) ∧ w'.cell? ⟨w.heap.size, 2, none⟩ = some (.slice (some ⟨bd, od, none⟩) E.m.decls.length dc) ∧ w'.cell? ⟨w.heap.size + 1, 4, none⟩ = some (.string t.name)) (v := ?_) rfl (by kernel_rfl) (by kernel_rfl) (by kernel_rfl) (fun _ _ _ h => h) (by kernel_rfl) (by assumption) (by kernel_rfl) rfl (by simp) (by rfl) ?_ (fun hV => ?_)
    rotate_left 1
    · (intro wq hq; obtain ⟨u0, u1, u2, -⟩ := hq; go_simp; try with_reducible rfl)
    clear hU; have hU := hV; clear hV
    try simp only [Act.put, aput]
    refine AnyU.take (i := 3) (v := ?_) rfl (by kernel_rfl) (by kernel_rfl) (by kernel_rfl) (fun _ _ _ h => h) (by kernel_rfl) (by assumption) (by rfl) ?_ (fun hV => ?_)
    rotate_left 1
    · (intro wq; go_simp; try with_reducible rfl)
    clear hU; have hU := hV; clear hV
    try simp only [Act.put, aput]
    refine AnyU.loadc (i := 4) (d := 5) [5] (Si := fun w' => w'.cell? ⟨w.heap.size, 0, none⟩ = some (.string E.m.name) ∧ w'.cell? ⟨w.heap.size, 1, none⟩ = some (.slice ia E.m.imps.length ic) ∧ w'.cell? ⟨w.heap.size, 2, none⟩ = some (.slice (some ⟨bd, od, none⟩) E.m.decls.length dc) ∧ w'.cell? ⟨w.heap.size + 1, 4, none⟩ = some (.string t.name)) (v := ?_) rfl (by kernel_rfl) (by kernel_rfl) (by kernel_rfl) (fun _ _ _ h => h) (by kernel_rfl) (by assumption) (by kernel_rfl) rfl (by simp) (by rfl) ?_ (fun hV => ?_)
    rotate_left 1
    · (intro wq hq; obtain ⟨-, -, -, u⟩ := hq; go_simp; try with_reducible rfl)
    clear hU; have hU := hV; clear hV
    try simp only [Act.put, aput]
    refine AnyU.ready2 (i := 5) (j := 8) (by kernel_rfl) (AnyU.one rfl fun K hK => ?_) (AnyU.one rfl fun K hK => ?_)
    · go_simp
      go_at_call 104
      refine (HFI.out _ (Below.refl W.heap.size W).drew).mono ?_
      rintro e w2 ⟨rfl, hb⟩
      have hb2 : Below W.heap.size W w2 := (Below.refl _ _).drew.trans hb
      clear hb
      have m2 := (hb2.cell (p := ⟨w.heap.size, 2, none⟩) lm).trans m2
      have c0 := (hb2.cell (p := ⟨bd, od + j * 9, none⟩) lbd).trans c0
      have c1 := (hb2.cell (p := ⟨bd, od + j * 9 + 1, none⟩) lbd).trans c1
      have c2 := (hb2.cell (p := ⟨bd, od + j * 9 + 2, none⟩) lbd).trans c2
      have c3 := (hb2.cell (p := ⟨bd, od + j * 9 + 3, none⟩) lbd).trans c3
      have c4 := (hb2.cell (p := ⟨bd, od + j * 9 + 4, none⟩) lbd).trans c4
      have c5 := (hb2.cell (p := ⟨bd, od + j * 9 + 5, none⟩) lbd).trans c5
      have c6 := (hb2.cell (p := ⟨bd, od + j * 9 + 6, none⟩) lbd).trans c6
      have c7 := (hb2.cell (p := ⟨bd, od + j * 9 + 7, none⟩) lbd).trans c7
      have c8 := (hb2.cell (p := ⟨bd, od + j * 9 + 8, none⟩) lbd).trans c8
      refine hK.out _ _ (Until.cons (fun h => absurd h (by decide)) (Until.cons (fun _ => ⟨m2, c0, c1, c2, c3, c4, c5, c6, c7, c8⟩) Until.nil)) (fun hV => ?_)
      clear hK K hU
      have hU := hV
      clear hV
      try simp only [Act.put, aput]
      refine AnyU.take (i := 6) (v := ?_) rfl (by kernel_rfl) (by kernel_rfl) (by kernel_rfl) (fun _ _ _ h => h) (by kernel_rfl) (by assumption) (by rfl) ?_ (fun hV => ?_)
      rotate_left 1
      · (intro wq; go_simp; try with_reducible rfl)
      clear hU; have hU := hV; clear hV
      try simp only [Act.put, aput]
      refine AnyU.loadc (i := 7) (d := 9) [9] (Si := fun w' => w'.cell? ⟨w.heap.size, 2, none⟩ = some (.slice (some ⟨bd, od, none⟩) E.m.decls.length dc) ∧ w'.cell? ⟨bd, od + j * 9, none⟩ = some (.int .i64 d.kind) ∧ w'.cell? ⟨bd, od + j * 9 + 1, none⟩ = some (.string d.name) ∧ w'.cell? ⟨bd, od + j * 9 + 2, none⟩ = some (.int .i64 d.ty.kind) ∧ w'.cell? ⟨bd, od + j * 9 + 3, none⟩ = some (.string d.ty.pkg) ∧ w'.cell? ⟨bd, od + j * 9 + 4, none⟩ = some (.int .i64 d.ty.major) ∧ w'.cell? ⟨bd, od + j * 9 + 5, none⟩ = some (.string d.ty.mod) ∧ w'.cell? ⟨bd, od + j * 9 + 6, none⟩ = some (.string d.ty.name) ∧ w'.cell? ⟨bd, od + j * 9 + 7, none⟩ = some (.slice na4 d.ty.names.length nc4) ∧ w'.cell? ⟨bd, od + j * 9 + 8, none⟩ = some (.slice sa4 d.ty.subs.length sc4)) (v := ?_) rfl (by kernel_rfl) (by kernel_rfl) (by kernel_rfl) (fun _ _ _ h => h) (by kernel_rfl) (by assumption) (by kernel_rfl) rfl (by simp) (by rfl) ?_ (fun hV => ?_)
      rotate_left 1
      · (intro wq hq; obtain ⟨-, u0, u1, u2, u3, u4, u5, u6, u7, u8⟩ := hq; go_simp; try with_reducible rfl)
      clear hU; have hU := hV; clear hV
      try simp only [Act.put, aput]
      refine AnyU.ready1 (i := 8) (by kernel_rfl) (AnyU.one rfl fun K hK => ?_)
      go_simp
      obtain ⟨zb, hbz, hzs⟩ := laidN w2 #[.int .i64 0, .string { data := #[] }, .int .i64 0, .string { data := #[] }, .int .i64 0, .string { data := #[] }, .string { data := #[] }, .slice none 0 0, .slice none 0 0] 45
      generalize hX3 : w2.alloc (.cells #[.int .i64 0, .string { data := #[] }, .int .i64 0, .string { data := #[] }, .int .i64 0, .string { data := #[] }, .string { data := #[] }, .slice none 0 0, .slice none 0 0] 45) = X3 at zb hbz hzs ⊢
      clear hX3
      have lm2 := Nat.lt_of_lt_of_le lm hb2.size
      have lbd2 := Nat.lt_of_lt_of_le lbd hb2.size
      have m2 := (hbz.cell (p := ⟨w.heap.size, 2, none⟩) lm2).trans m2
      have c0 := (hbz.cell (p := ⟨bd, od + j * 9, none⟩) lbd2).trans c0
      have c1 := (hbz.cell (p := ⟨bd, od + j * 9 + 1, none⟩) lbd2).trans c1
      have c2 := (hbz.cell (p := ⟨bd, od + j * 9 + 2, none⟩) lbd2).trans c2
      have c3 := (hbz.cell (p := ⟨bd, od + j * 9 + 3, none⟩) lbd2).trans c3
      have c4 := (hbz.cell (p := ⟨bd, od + j * 9 + 4, none⟩) lbd2).trans c4
      have c5 := (hbz.cell (p := ⟨bd, od + j * 9 + 5, none⟩) lbd2).trans c5
      have c6 := (hbz.cell (p := ⟨bd, od + j * 9 + 6, none⟩) lbd2).trans c6
      have c7 := (hbz.cell (p := ⟨bd, od + j * 9 + 7, none⟩) lbd2).trans c7
      have c8 := (hbz.cell (p := ⟨bd, od + j * 9 + 8, none⟩) lbd2).trans c8
      refine hK.out _ _ (Until.cons (fun h => absurd h (by decide)) (Until.cons (fun _ => ⟨m2, c0, c1, c2, c3, c4, c5, c6, c7, c8⟩) Until.nil)) (fun hV => ?_)
      clear hK K hU
      have hU := hV
      clear hV
      try simp only [Act.put, aput]
      have hgz : W.heap.size ≤ w2.heap.size := hb2.size
      have hbX : Below W.heap.size W X3 := hb2.trans (hbz.mono hb2.size)
      obtain ⟨d0, d1, d2, d3, d4, d5, d6, d7, d8⟩ := cellsT9 zb
      have f0 := zb.free 0
      have f1 := zb.free 1
      have f2 := zb.free 2
      have f3 := zb.free 3
      have f4 := zb.free 4
      have f5 := zb.free 5
      have f6 := zb.free 6
      have f7 := zb.free 7
      have f8 := zb.free 8
      have ld := zb.lt
      clear m2 c0 c1 c2 c3 c4 c5 c6 c7 c8
      refine AnyU.ready1 (i := 9) (by kernel_rfl) (AnyU.one rfl fun K hK => ?_)
      go_simp
      obtain ⟨Wf, hWq, hp, hbp⟩ := st9 (.int .i64 d.kind) (.string d.name) (.int .i64 d.ty.kind) (.string d.ty.pkg) (.int .i64 d.ty.major) (.string d.ty.mod) (.string d.ty.name) (.slice na4 d.ty.names.length nc4) (.slice sa4 d.ty.subs.length sc4) zb hbX hgz
      rewrite [← hWq]; clear hWq
      refine hK.out _ _ (Until.offT (by kernel_rfl)) (fun hV => ?_)
      clear hK K hU
      have hU := hV
      clear hV
      try simp only [Act.put, aput]
      refine AnyU.done (by kernel_rfl) ?_
      go_wp2_with fail
      go_meet
      exact ⟨_, rfl, hgz, hp, hbp⟩
    · go_simp
      obtain ⟨zb, hbz, hzs⟩ := laidD W #[.int .i64 0, .string { data := #[] }, .int .i64 0, .string { data := #[] }, .int .i64 0, .string { data := #[] }, .string { data := #[] }, .slice none 0 0, .slice none 0 0] 45
      generalize hX3 : (W.alloc (.cells #[.int .i64 0, .string { data := #[] }, .int .i64 0, .string { data := #[] }, .int .i64 0, .string { data := #[] }, .string { data := #[] }, .slice none 0 0, .slice none 0 0] 45)).drew = X3 at zb hbz hzs ⊢
      clear hX3
      rw [hz] at zb
      have m2 := (hbz.cell (p := ⟨w.heap.size, 2, none⟩) lm).trans m2
      have c0 := (hbz.cell (p := ⟨bd, od + j * 9, none⟩) lbd).trans c0
      have c1 := (hbz.cell (p := ⟨bd, od + j * 9 + 1, none⟩) lbd).trans c1
      have c2 := (hbz.cell (p := ⟨bd, od + j * 9 + 2, none⟩) lbd).trans c2
      have c3 := (hbz.cell (p := ⟨bd, od + j * 9 + 3, none⟩) lbd).trans c3
      have c4 := (hbz.cell (p := ⟨bd, od + j * 9 + 4, none⟩) lbd).trans c4
      have c5 := (hbz.cell (p := ⟨bd, od + j * 9 + 5, none⟩) lbd).trans c5
      have c6 := (hbz.cell (p := ⟨bd, od + j * 9 + 6, none⟩) lbd).trans c6
      have c7 := (hbz.cell (p := ⟨bd, od + j * 9 + 7, none⟩) lbd).trans c7
      have c8 := (hbz.cell (p := ⟨bd, od + j * 9 + 8, none⟩) lbd).trans c8
      have m0 := (hbz.cell (p := ⟨w.heap.size, 0, none⟩) lm).trans m0
      have m1 := (hbz.cell (p := ⟨w.heap.size, 1, none⟩) lm).trans m1
      have k4 := (hbz.cell (p := ⟨w.heap.size + 1, 4, none⟩) lk).trans k4
      refine hK.out _ _ (Until.cons (fun _ => ⟨m0, m1, m2, k4⟩) (Until.cons (fun _ => ⟨m2, c0, c1, c2, c3, c4, c5, c6, c7, c8⟩) Until.nil)) (fun hV => ?_)
      clear hK K hU
      have hU := hV
      clear hV
      try simp only [Act.put, aput]
      refine AnyU.ready1 (i := 5) (by kernel_rfl) (AnyU.one rfl fun K hK => ?_)
      go_simp
      go_at_call 104
      refine (HFI.out _ hbz).mono ?_
      rintro e w2 ⟨rfl, hb⟩
      have lm2 := Nat.lt_of_lt_of_le lm hbz.size
      have lbd2 := Nat.lt_of_lt_of_le lbd hbz.size
      have m2 := (hb.cell (p := ⟨w.heap.size, 2, none⟩) lm2).trans m2
      have c0 := (hb.cell (p := ⟨bd, od + j * 9, none⟩) lbd2).trans c0
      have c1 := (hb.cell (p := ⟨bd, od + j * 9 + 1, none⟩) lbd2).trans c1
      have c2 := (hb.cell (p := ⟨bd, od + j * 9 + 2, none⟩) lbd2).trans c2
      have c3 := (hb.cell (p := ⟨bd, od + j * 9 + 3, none⟩) lbd2).trans c3
      have c4 := (hb.cell (p := ⟨bd, od + j * 9 + 4, none⟩) lbd2).trans c4
      have c5 := (hb.cell (p := ⟨bd, od + j * 9 + 5, none⟩) lbd2).trans c5
      have c6 := (hb.cell (p := ⟨bd, od + j * 9 + 6, none⟩) lbd2).trans c6
      have c7 := (hb.cell (p := ⟨bd, od + j * 9 + 7, none⟩) lbd2).trans c7
      have c8 := (hb.cell (p := ⟨bd, od + j * 9 + 8, none⟩) lbd2).trans c8
      have hbX : Below W.heap.size W w2 := hbz.trans (hb.mono (by omega))
      have zb := zb.under hb zb.lt
      have hgz : W.heap.size ≤ w.heap.size + 1 + 1 + 1 := Nat.le_of_eq hz
      clear hb
      refine hK.out _ _ (Until.cons (fun h => absurd h (by decide)) (Until.cons (fun _ => ⟨m2, c0, c1, c2, c3, c4, c5, c6, c7, c8⟩) Until.nil)) (fun hV => ?_)
      clear hK K hU
      have hU := hV
      clear hV
      try simp only [Act.put, aput]
      refine AnyU.take (i := 6) (v := ?_) rfl (by kernel_rfl) (by kernel_rfl) (by kernel_rfl) (fun _ _ _ h => h) (by kernel_rfl) (by assumption) (by rfl) ?_ (fun hV => ?_)
      rotate_left 1
      · (intro wq; go_simp; try with_reducible rfl)
      clear hU; have hU := hV; clear hV
      try simp only [Act.put, aput]
      refine AnyU.loadc (i := 7) (d := 9) [9] (Si := fun w' => w'.cell? ⟨w.heap.size, 2, none⟩ = some (.slice (some ⟨bd, od, none⟩) E.m.decls.length dc) ∧ w'.cell? ⟨bd, od + j * 9, none⟩ = some (.int .i64 d.kind) ∧ w'.cell? ⟨bd, od + j * 9 + 1, none⟩ = some (.string d.name) ∧ w'.cell? ⟨bd, od + j * 9 + 2, none⟩ = some (.int .i64 d.ty.kind) ∧ w'.cell? ⟨bd, od + j * 9 + 3, none⟩ = some (.string d.ty.pkg) ∧ w'.cell? ⟨bd, od + j * 9 + 4, none⟩ = some (.int .i64 d.ty.major) ∧ w'.cell? ⟨bd, od + j * 9 + 5, none⟩ = some (.string d.ty.mod) ∧ w'.cell? ⟨bd, od + j * 9 + 6, none⟩ = some (.string d.ty.name) ∧ w'.cell? ⟨bd, od + j * 9 + 7, none⟩ = some (.slice na4 d.ty.names.length nc4) ∧ w'.cell? ⟨bd, od + j * 9 + 8, none⟩ = some (.slice sa4 d.ty.subs.length sc4)) (v := ?_) rfl (by kernel_rfl) (by kernel_rfl) (by kernel_rfl) (fun _ _ _ h => h) (by kernel_rfl) (by assumption) (by kernel_rfl) rfl (by simp) (by rfl) ?_ (fun hV => ?_)
      rotate_left 1
      · (intro wq hq; obtain ⟨-, u0, u1, u2, u3, u4, u5, u6, u7, u8⟩ := hq; go_simp; try with_reducible rfl)
      clear hU; have hU := hV; clear hV
      try simp only [Act.put, aput]
      obtain ⟨d0, d1, d2, d3, d4, d5, d6, d7, d8⟩ := cellsT9 zb
      have f0 := zb.free 0
      have f1 := zb.free 1
      have f2 := zb.free 2
      have f3 := zb.free 3
      have f4 := zb.free 4
      have f5 := zb.free 5
      have f6 := zb.free 6
      have f7 := zb.free 7
      have f8 := zb.free 8
      have ld := zb.lt
      clear m2 c0 c1 c2 c3 c4 c5 c6 c7 c8
      refine AnyU.ready1 (i := 9) (by kernel_rfl) (AnyU.one rfl fun K hK => ?_)
      go_simp
      obtain ⟨Wf, hWq, hp, hbp⟩ := st9 (.int .i64 d.kind) (.string d.name) (.int .i64 d.ty.kind) (.string d.ty.pkg) (.int .i64 d.ty.major) (.string d.ty.mod) (.string d.ty.name) (.slice na4 d.ty.names.length nc4) (.slice sa4 d.ty.subs.length sc4) zb hbX hgz
      rewrite [← hWq]; clear hWq
      refine hK.out _ _ (Until.offT (by kernel_rfl)) (fun hV => ?_)
      clear hK K hU
      have hU := hV
      clear hV
      try simp only [Act.put, aput]
      refine AnyU.done (by kernel_rfl) ?_
      go_wp2_with fail
      go_meet
      exact ⟨_, rfl, hgz, hp, hbp⟩
  case rest =>
    rename World => w4
    obtain ⟨b4, rfl, hb4W, hb4, hb⟩ := hcut
    clear m0 m1 m2 k0 k1 k2 k3 k4 k5 k6 e0 e1 e2 e3 e4 e5 e6 ml kl el
    clear c0 c1 c2 c3 c4 c5 c6 c7 c8 lbd lm lk
    have hwn : w.heap.size + 1 + 1 + 1 ≤ w4.heap.size := by have := hb.size; omega
    have HTD := Lib.hid (HTD.out.under (hb.mono (Nat.le_trans hB BC.out.size)))
    have D0 := Lib.hid (D0.out.under hb D0.out.lt)
    have D1 := Lib.hid (D1.out.under hb D1.out.lt)
    have D2 := Lib.hid (D2.out.under hb D2.out.lt)
    have BC := Lib.hid (BC.out.trans (hb.mono BC.out.size))
    have D4 := Lib.hid hb4
    clear hb hb4
    obtain ⟨m0, m1, m2⟩ := cellsT3 D0.out
    have ml := D0.out.lt
    obtain ⟨k0, k1, k2, k3, k4, k5, k6⟩ := cellsT7 D1.out
    have kl := D1.out.lt
    obtain ⟨e0, e1, e2, e3, e4, e5, e6⟩ := cellsT7 D2.out
    have el := D2.out.lt
    obtain ⟨q0, q1, q2, q3, q4, q5, q6, q7, q8⟩ := cellsT9 D4.out
    have ql := D4.out.lt
    have hX := HX.out _ _ BC.out HTD.out
    simp only [tyCells] at hX
    have HXX := Lib.hid hX
    clear hX HX
    go_wp2_with (go_at_call 77; refine (HXX.out).mono ?_; rintro e wn ⟨cs1, y, n, rfl, hpo, hty, hb⟩; obtain ⟨na1, nc1, sa1, sc1, f1, rfl, -⟩ := hty.inv; simp only [tyCells]; have HTY := Lib.hid hty; have HPO := Lib.hid hpo; clear hty hpo; have D0 := Lib.hid (D0.out.under hb D0.out.lt); have D1 := Lib.hid (D1.out.under hb D1.out.lt); have D2 := Lib.hid (D2.out.under hb D2.out.lt); have D4 := Lib.hid (D4.out.under hb D4.out.lt); have BC := Lib.hid (BC.out.trans (hb.mono BC.out.size)); have f0 := D2.out.free 0; have f1 := D2.out.free 1; have f2 := D2.out.free 2; have f3 := D2.out.free 3; have f4 := D2.out.free 4; have f5 := D2.out.free 5; have f6 := D2.out.free 6; clear hb; clear m0 m1 m2 k0 k1 k2 k3 k4 k5 k6 e0 e1 e2 e3 e4 e5 e6 q0 q1 q2 q3 q4 q5 q6 q7 q8 ml kl el ql; obtain ⟨m0, m1, m2⟩ := cellsT3 D0.out; have ml := D0.out.lt; obtain ⟨k0, k1, k2, k3, k4, k5, k6⟩ := cellsT7 D1.out; have kl := D1.out.lt; obtain ⟨e0, e1, e2, e3, e4, e5, e6⟩ := cellsT7 D2.out; have el := D2.out.lt; obtain ⟨q0, q1, q2, q3, q4, q5, q6, q7, q8⟩ := cellsT9 D4.out; have ql := D4.out.lt)
    have hp := pf7 (.int .i64 y.kind) (.string y.pkg) (.int .i64 y.major) (.string y.mod) (.string y.name) (.slice na1 y.names.length nc1) (.slice sa1 y.subs.length sc1) D2.out
    have hbp := pb7 (.int .i64 y.kind) (.string y.pkg) (.int .i64 y.major) (.string y.mod) (.string y.name) (.slice na1 y.names.length nc1) (.slice sa1 y.subs.length sc1) BC.out (show w.heap.size ≤ w.heap.size + 1 + 1 by omega)
    have hcc := fun (p : Addr) (hp : p.block ≠ w.heap.size + 1 + 1) => pc7 (w := wn) (.int .i64 y.kind) (.string y.pkg) (.int .i64 y.major) (.string y.mod) (.string y.name) (.slice na1 y.names.length nc1) (.slice sa1 y.subs.length sc1) hp
    have hsz := ps7 wn (g := w.heap.size + 1 + 1) (.int .i64 y.kind) (.string y.pkg) (.int .i64 y.major) (.string y.mod) (.string y.name) (.slice na1 y.names.length nc1) (.slice sa1 y.subs.length sc1)
    generalize (((((((wn.setCell ⟨w.heap.size + 1 + 1, 0, none⟩ (.int .i64 y.kind)).setCell ⟨w.heap.size + 1 + 1, 1, none⟩ (.string y.pkg)).setCell ⟨w.heap.size + 1 + 1, 2, none⟩ (.int .i64 y.major)).setCell ⟨w.heap.size + 1 + 1, 3, none⟩ (.string y.mod)).setCell ⟨w.heap.size + 1 + 1, 4, none⟩ (.string y.name)).setCell ⟨w.heap.size + 1 + 1, 5, none⟩ (.slice na1 y.names.length nc1)).setCell ⟨w.heap.size + 1 + 1, 6, none⟩ (.slice sa1 y.subs.length sc1)) = Wz at hp hbp hcc hsz ⊢
    obtain ⟨r0, r1, r2, r3, r4, r5, r6⟩ := cellsT7 hp
    refine bodyPost_ret (by simp [results, Tryz.results77, go_sem, r0, r1, r2, r3, r4, r5, r6]; try rfl) rfl ?_
    exact ⟨_, y, n, rfl, HPO.out, rx_fin HTY.out (by omega) (by omega) hsz hcc, hbp⟩
end Go.Proofs.YtjeldfipipkfiaaGreatDoor
