/- The contract of iface.Build: where the module is amiss, and where the call itself is. -/
import Derived.Test.YtjeldfipipkfiaaGreatGBldS
import Derived.Test.YtjeldfipipkfiaaGreatGBldP
import Derived.Test.YtjeldfipipkfiaaGreatExE
import Derived.Test.YtjeldfipipkfiaaGreatCatK
namespace Go.Proofs.YtjeldfipipkfiaaGreat
open Go.RowKit
set_option linter.unusedSimpArgs false
set_option linter.unusedVariables false
theorem fr5 (w : World) {g : Nat} (v0 v1 v2 v3 v4 : Value) : Fr (· = g) w (((((w.setCell ⟨g, 0, none⟩ (v0)).setCell ⟨g, 1, none⟩ (v1)).setCell ⟨g, 2, none⟩ (v2)).setCell ⟨g, 3, none⟩ (v3)).setCell ⟨g, 4, none⟩ (v4)) := by
  have hb := pb5 (B := g) v0 v1 v2 v3 v4 (Below.refl g w) (Nat.le_refl g)
  exact ⟨hb.os, hb.tape, hb.output, by rw [ps5]; exact Nat.le_refl _, fun b _ hn => by rw [Below.heap_setCell _ _ _ _ hn, Below.heap_setCell _ _ _ _ hn, Below.heap_setCell _ _ _ _ hn, Below.heap_setCell _ _ _ _ hn, Below.heap_setCell _ _ _ _ hn]⟩
theorem sf5 {w0 w : World} {B g : Nat} {T : TypeId} {a0 a1 a2 a3 a4 : Value} (v0 v1 v2 v3 v4 : Value) (h : Blk w g #[a0, a1, a2, a3, a4] T) (hb : Below B w0 w) (hg : B ≤ g) : ∃ W, W = (((((w.setCell ⟨g, 0, none⟩ (v0)).setCell ⟨g, 1, none⟩ (v1)).setCell ⟨g, 2, none⟩ (v2)).setCell ⟨g, 3, none⟩ (v3)).setCell ⟨g, 4, none⟩ (v4)) ∧ Blk W g #[v0, v1, v2, v3, v4] T ∧ Below B w0 W ∧ Fr (· = g) w W :=
  ⟨_, rfl, pf5 v0 v1 v2 v3 v4 h, pb5 v0 v1 v2 v3 v4 hb hg, fr5 w v0 v1 v2 v3 v4⟩
def BldRet (w : World) (q : Int × Option Nat × If) (e : Ending) (w' : World) : Prop := ∃ cs v, e = .returned (.tuple #[.agg cs, v]) ∧ IfC w' w'.heap.size q.2.2 cs ∧ ErrAt w' v (errB q) ∧ Below w.heap.size w w'
theorem ErrAt.farG {w w' : World} {v : Value} {r : Option (Int × Option Nat)} {G : Nat} {C : Array Value} {T : TypeId} (h : ErrAt w v r) (hG : Blk w G C T) (hC : C.size = 5) (hf : Fr (· = G) w w') : ErrAt w' v r := by
  match r, h with
  | none, h => exact h
  | some (c, none), h => exact h
  | some (c, some i), h =>
    obtain ⟨b, hv, hb⟩ := h
    refine ⟨b, hv, hb.fr hf (fun e => ?_)⟩
    have e : b = G := e
    subst e
    have h2 : (some (Obj.cells #[.int .i64 i, .iface 62 (.int .i64 c)] 67 (0, 0)) : Option Obj) = some (.cells C T (0, 0)) := hb.symm.trans hG
    injection h2 with h2
    injection h2 with h2
    rw [← h2] at hC
    cases hC
theorem errNe {w : World} {v : Value} {r : Option (Int × Option Nat)} (h : ErrAt w v r) (hr : r ≠ none) : ∃ T p, v = .iface T p := by
  match r, h with
  | none, h => exact absurd rfl hr
  | some (c, none), h => exact ⟨_, _, h⟩
  | some (c, some i), h => obtain ⟨b, h, -⟩ := h; exact ⟨_, _, h⟩
theorem check_ne {m : Mdl} {p : Int × Option Nat} (hp : checkF m = some p) : p.1 ≠ 0 := by
  intro h0
  rw [checkF] at hp
  split at hp
  · rw [Option.map_eq_some_iff] at hp
    obtain ⟨⟨c, i⟩, h1, h2⟩ := hp
    rw [← h2] at h0
    have h0 : c = 0 := h0
    subst h0
    rw [amissF] at h1
    split at h1
    · cases h1
    · obtain ⟨c, hc, hm⟩ := List.exists_of_findSome?_eq_some h1
      rw [Option.map_eq_some_iff] at hm
      obtain ⟨k, _, he⟩ := hm
      injection he with h1 h2
      subst h1
      simp [codes4] at hc
  · injection hp with hp
    rw [← hp] at h0
    cases h0
set_option maxRecDepth 100000 in
set_option maxHeartbeats 40000000 in
theorem bld_bad (E : Env) (ia : Option Addr) (ic : Nat) (da : Option Addr) (dc : Nat) (ea : Option Addr) (ec : Nat) (B : Nat) (w : World) (hE : EnvC w B E ia ic da dc ea ec) (hB : B ≤ w.heap.size) {p : Int × Option Nat} (hp : checkF E.m = some p) :
    Calls Tryz.prog 10 #[.agg (mdlCells E.m ia ic da dc), .string E.pkg, .int .i64 E.major, .slice ea E.env.length ec] w (BldRet w (p.1, p.2, zIfq)) := by
  have hck := fun W' (hb : Below w.heap.size w W') => check_c E.m ia ic da dc B W' (hE.mdl.under (hb.mono hB)) (Nat.le_trans hB hb.size)
  simp only [mdlCells] at hck ⊢
  have HCK := Lib.hid hck
  have HE := Lib.hid hE
  have hpk := hE.pk
  have hne := hE.ne
  have hmj1 := hE.mj.1
  have hmj2 := hE.mj.2
  clear hck hE
  have HP := Lib.hid hp
  have HEB := Lib.hid (show errB (p.1, p.2, zIfq) = checkF E.m by rw [errB, if_neg (check_ne hp), hp])
  clear hp
  go_enter Tryz.func10, Tryz.ntmps10
  go_upto_region 1 with fail
  obtain ⟨W, hWq, d0, d1, hz, hb⟩ := twoEX w #[.string E.m.name, .slice ia E.m.imps.length ic, .slice da E.m.decls.length dc] #[.string { data := #[] }, .int .i64 0, .string { data := #[] }, .slice none 0 0, .slice none 0 0] 25 33
  rewrite [← hWq]; clear hWq
  have BC := Lib.hid hb
  have D0 := Lib.hid d0
  have D1 := Lib.hid d1
  clear hb d0 d1 hz
  obtain ⟨m0, m1, m2⟩ := cellsT3 D0.out
  have ml := D0.out.lt
  obtain ⟨e0, e1, e2, e3, e4⟩ := cellsT5 D1.out
  have el := D1.out.lt
  go_upto_region 2 with (go_at_call 22; refine (HCK.out _ BC.out).mono ?_; rintro e wn ⟨v, rfl, hv, hb⟩; have HV := Lib.hid hv; clear hv; have D0 := Lib.hid (D0.out.under hb D0.out.lt); have D1 := Lib.hid (D1.out.under hb D1.out.lt); have BC := Lib.hid (BC.out.trans (hb.mono BC.out.size)); clear hb; clear m0 m1 m2 e0 e1 e2 e3 e4 ml el; obtain ⟨m0, m1, m2⟩ := cellsT3 D0.out; have ml := D0.out.lt; obtain ⟨e0, e1, e2, e3, e4⟩ := cellsT5 D1.out; have el := D1.out.lt)
  obtain ⟨T, q, hv⟩ := errNe HV.out (by rw [HP.out]; exact fun h => by cases h)
  subst hv
  have f0 := D1.out.free 0
  have f1 := D1.out.free 1
  have f2 := D1.out.free 2
  have f3 := D1.out.free 3
  have f4 := D1.out.free 4
  go_wp2_with fail
  obtain ⟨Wz, hWq, hp, hbp, hfz⟩ := sf5 (.string { data := #[] }) (.int .i64 0) (.string { data := #[] }) (.slice none 0 0) (.slice none 0 0) D1.out BC.out (Nat.le_succ _)
  rewrite [← hWq]; clear hWq
  obtain ⟨r0, r1, r2, r3, r4⟩ := cellsT5 hp
  refine bodyPost_ret (by simp [results, Tryz.results10, go_sem, r0, r1, r2, r3, r4]; try rfl) rfl ?_
  exact ⟨_, _, rfl, zIfx_c _ _, by rw [HEB.out]; exact HV.out.farG D1.out rfl hfz, hbp⟩
set_option maxRecDepth 100000 in
set_option maxHeartbeats 40000000 in
theorem bld_argC (E : Env) (ia : Option Addr) (ic : Nat) (da : Option Addr) (dc : Nat) (ea : Option Addr) (ec : Nat) (B : Nat) (w : World) (hE : EnvC w B E ia ic da dc ea ec) (hB : B ≤ w.heap.size) (hc : checkF E.m = none) (ho : okE E = false) :
    Calls Tryz.prog 10 #[.agg (mdlCells E.m ia ic da dc), .string E.pkg, .int .i64 E.major, .slice ea E.env.length ec] w (BldRet w (1, none, zIfq)) := by
  have hck := fun W' (hb : Below w.heap.size w W') => check_c E.m ia ic da dc B W' (hE.mdl.under (hb.mono hB)) (Nat.le_trans hB hb.size)
  simp only [mdlCells] at hck ⊢
  have HCK := Lib.hid hck
  have HE := Lib.hid hE
  have hpk := hE.pk
  have hne := hE.ne
  have hmj1 := hE.mj.1
  have hmj2 := hE.mj.2
  clear hck hE
  have hsm := fun W' => Small_c E.pkg W' hpk
  obtain ⟨qs, hqs⟩ : ∃ q, smallB E.pkg = q := ⟨_, rfl⟩
  simp only [hqs] at hsm
  have HSM := Lib.hid hsm
  have HQS := Lib.hid hqs
  have HO := Lib.hid ho
  rw [hc] at HCK
  clear hsm hqs hc ho hpk
  go_enter Tryz.func10, Tryz.ntmps10
  go_upto_region 1 with fail
  obtain ⟨W, hWq, d0, d1, hz, hb⟩ := twoEX w #[.string E.m.name, .slice ia E.m.imps.length ic, .slice da E.m.decls.length dc] #[.string { data := #[] }, .int .i64 0, .string { data := #[] }, .slice none 0 0, .slice none 0 0] 25 33
  rewrite [← hWq]; clear hWq
  have BC := Lib.hid hb
  have D0 := Lib.hid d0
  have D1 := Lib.hid d1
  clear hb d0 d1 hz
  obtain ⟨m0, m1, m2⟩ := cellsT3 D0.out
  have ml := D0.out.lt
  obtain ⟨e0, e1, e2, e3, e4⟩ := cellsT5 D1.out
  have el := D1.out.lt
  go_upto_region 2 with (go_at_call 22; refine (HCK.out _ BC.out).mono ?_; rintro e wn ⟨v, rfl, hv, hb⟩; obtain rfl := (show v = .nilIface from hv); have D0 := Lib.hid (D0.out.under hb D0.out.lt); have D1 := Lib.hid (D1.out.under hb D1.out.lt); have BC := Lib.hid (BC.out.trans (hb.mono BC.out.size)); clear hb; clear m0 m1 m2 e0 e1 e2 e3 e4 ml el; obtain ⟨m0, m1, m2⟩ := cellsT3 D0.out; have ml := D0.out.lt; obtain ⟨e0, e1, e2, e3, e4⟩ := cellsT5 D1.out; have el := D1.out.lt)
  go_upto_region 5 with fail
  clear m0 m1 m2 e0 e1 e2 e3 e4 ml el
  obtain ⟨W3, hWq, bN, hb, hzN⟩ := laidNX wn #[.string E.pkg, .int .i64 E.major, .string E.m.name, .slice none 0 0, .slice none 0 0] 33
  rewrite [← hWq]; clear hWq
  have D0 := Lib.hid (D0.out.under hb D0.out.lt)
  have D1 := Lib.hid (D1.out.under hb D1.out.lt)
  have BC := Lib.hid (BC.out.trans (hb.mono BC.out.size))
  have D2 := Lib.hid bN
  clear bN hb hzN
  obtain ⟨m0, m1, m2⟩ := cellsT3 D0.out
  have ml := D0.out.lt
  obtain ⟨e0, e1, e2, e3, e4⟩ := cellsT5 D1.out
  have el := D1.out.lt
  obtain ⟨o0, o1, o2, o3, o4⟩ := cellsT5 D2.out
  have ol := D2.out.lt
  clear m0 m1 m2 ml o0 o1 o2 o3 o4 ol
  cases qs
  · go_wp2_with (go_at_call 23; refine (HSM.out _).mono ?_; rintro e wn ⟨rfl, hb⟩; have D1 := Lib.hid (D1.out.under hb D1.out.lt); have BC := Lib.hid (BC.out.trans (hb.mono BC.out.size)); clear hb e0 e1 e2 e3 e4 el; obtain ⟨e0, e1, e2, e3, e4⟩ := cellsT5 D1.out; have el := D1.out.lt; have f0 := D1.out.free 0; have f1 := D1.out.free 1; have f2 := D1.out.free 2; have f3 := D1.out.free 3; have f4 := D1.out.free 4)
    obtain ⟨Wz, hWq, hp, hbp, hfz⟩ := sf5 (.string { data := #[] }) (.int .i64 0) (.string { data := #[] }) (.slice none 0 0) (.slice none 0 0) D1.out BC.out (Nat.le_succ _)
    rewrite [← hWq]; clear hWq
    obtain ⟨r0, r1, r2, r3, r4⟩ := cellsT5 hp
    refine bodyPost_ret (by simp [results, Tryz.results10, go_sem, r0, r1, r2, r3, r4]; try rfl) rfl ?_
    exact ⟨_, _, rfl, zIfx_c _ _, rfl, hbp⟩
  by_cases h1 : E.major < 1
  · go_wp2_with (go_at_call 23; refine (HSM.out _).mono ?_; rintro e wn ⟨rfl, hb⟩; have D1 := Lib.hid (D1.out.under hb D1.out.lt); have BC := Lib.hid (BC.out.trans (hb.mono BC.out.size)); clear hb e0 e1 e2 e3 e4 el; obtain ⟨e0, e1, e2, e3, e4⟩ := cellsT5 D1.out; have el := D1.out.lt; have f0 := D1.out.free 0; have f1 := D1.out.free 1; have f2 := D1.out.free 2; have f3 := D1.out.free 3; have f4 := D1.out.free 4)
    obtain ⟨Wz, hWq, hp, hbp, hfz⟩ := sf5 (.string { data := #[] }) (.int .i64 0) (.string { data := #[] }) (.slice none 0 0) (.slice none 0 0) D1.out BC.out (Nat.le_succ _)
    rewrite [← hWq]; clear hWq
    obtain ⟨r0, r1, r2, r3, r4⟩ := cellsT5 hp
    refine bodyPost_ret (by simp [results, Tryz.results10, go_sem, r0, r1, r2, r3, r4]; try rfl) rfl ?_
    exact ⟨_, _, rfl, zIfx_c _ _, rfl, hbp⟩
  by_cases h2 : 999999999 < E.major
  · go_wp2_with (go_at_call 23; refine (HSM.out _).mono ?_; rintro e wn ⟨rfl, hb⟩; have D1 := Lib.hid (D1.out.under hb D1.out.lt); have BC := Lib.hid (BC.out.trans (hb.mono BC.out.size)); clear hb e0 e1 e2 e3 e4 el; obtain ⟨e0, e1, e2, e3, e4⟩ := cellsT5 D1.out; have el := D1.out.lt; have f0 := D1.out.free 0; have f1 := D1.out.free 1; have f2 := D1.out.free 2; have f3 := D1.out.free 3; have f4 := D1.out.free 4)
    obtain ⟨Wz, hWq, hp, hbp, hfz⟩ := sf5 (.string { data := #[] }) (.int .i64 0) (.string { data := #[] }) (.slice none 0 0) (.slice none 0 0) D1.out BC.out (Nat.le_succ _)
    rewrite [← hWq]; clear hWq
    obtain ⟨r0, r1, r2, r3, r4⟩ := cellsT5 hp
    refine bodyPost_ret (by simp [results, Tryz.results10, go_sem, r0, r1, r2, r3, r4]; try rfl) rfl ?_
    exact ⟨_, _, rfl, zIfx_c _ _, rfl, hbp⟩
  by_cases h3 : 100 < (E.env.length : Int)
  · go_wp2_with (go_at_call 23; refine (HSM.out _).mono ?_; rintro e wn ⟨rfl, hb⟩; have D1 := Lib.hid (D1.out.under hb D1.out.lt); have BC := Lib.hid (BC.out.trans (hb.mono BC.out.size)); clear hb e0 e1 e2 e3 e4 el; obtain ⟨e0, e1, e2, e3, e4⟩ := cellsT5 D1.out; have el := D1.out.lt; have f0 := D1.out.free 0; have f1 := D1.out.free 1; have f2 := D1.out.free 2; have f3 := D1.out.free 3; have f4 := D1.out.free 4)
    obtain ⟨Wz, hWq, hp, hbp, hfz⟩ := sf5 (.string { data := #[] }) (.int .i64 0) (.string { data := #[] }) (.slice none 0 0) (.slice none 0 0) D1.out BC.out (Nat.le_succ _)
    rewrite [← hWq]; clear hWq
    obtain ⟨r0, r1, r2, r3, r4⟩ := cellsT5 hp
    refine bodyPost_ret (by simp [results, Tryz.results10, go_sem, r0, r1, r2, r3, r4]; try rfl) rfl ?_
    exact ⟨_, _, rfl, zIfx_c _ _, rfl, hbp⟩
  · exfalso
    have := HO.out
    rw [okE, HQS.out, decide_eq_true (show 1 ≤ E.major by omega), decide_eq_true (show E.major ≤ 999999999 by omega), decide_eq_true (show E.env.length ≤ 100 by omega)] at this
    cases this
end Go.Proofs.YtjeldfipipkfiaaGreat
namespace Go.Proofs.YtjeldfipipkfiaaGreat
open Go.RowKit
set_option linter.unusedSimpArgs false
set_option linter.unusedVariables false
structure BldW (w wr : World) (G : Nat) (E : Env) (ia : Option Addr) (ic : Nat) (da : Option Addr) (dc : Nat) (ea : Option Addr) (ec : Nat) (C : Ty → Int) (X : Ty → Ty) (k : Nat) (tv vv : Value) (T V : List NmZ) : Prop where
  le : Below w.heap.size w wr
  gl : w.heap.size + 2 ≤ G
  size : G + 1 ≤ wr.heap.size
  bm : Blk wr w.heap.size #[.string E.m.name, .slice ia E.m.imps.length ic, .slice da E.m.decls.length dc] 25
  br : Blk wr (w.heap.size + 1) #[.string { data := #[] }, .int .i64 0, .string { data := #[] }, .slice none 0 0, .slice none 0 0] 33
  bo : Blk wr G #[.string E.pkg, .int .i64 E.major, .string E.m.name, tv, vv] 33
  rows : Bld2 wr (G + 1) tv vv T V
  st : BldK C X E.m.decls k (T.map (·.1)) (V.map (·.1))
theorem RowZ.far {w x : World} {base : Nat} {sv ov : Value} {Z : List NmZ} (h : RowZ w base sv ov Z) (hf : ∀ b, base ≤ b → b < w.heap.size → x.heap[b]? = w.heap[b]?) (hs : w.heap.size ≤ x.heap.size) : RowZ x base sv ov Z :=
  ⟨owns_keep h.row fun g hg => hf g (owns_lt h.row hg).1 (owns_lt h.row hg).2, fun z hz => (h.each z hz).move (fun b hM => hM.imp id fun ⟨h1, h2, h3⟩ => ⟨h1, Nat.lt_of_lt_of_le h2 hs, h3⟩) fun p hM => by
    rcases hM with hM | hM
    · omega
    · exact World.cell?_of_block (w := w) (hf _ hM.1 hM.2.1)⟩
theorem Bld2.far {w x : World} {base : Nat} {tv vv : Value} {T V : List NmZ} (h : Bld2 w base tv vv T V) (hf : ∀ b, base ≤ b → b < w.heap.size → x.heap[b]? = w.heap[b]?) (hs : w.heap.size ≤ x.heap.size) : Bld2 x base tv vv T V := ⟨h.t.far hf hs, h.v.far hf hs, h.apart⟩
theorem locT_c (w : World) (B : Nat) (s : ByteArray) (h : s.size ≤ maxLen) : TyC w B (locT s) (tyCells (locT s) none 0 none 0) :=
  .mk (locT s) none 0 none 0 (fun _ => #[]) ⟨by simp [locT, Ty.kind], by simp [locT, Ty.major], Nat.zero_le _, Nat.zero_le _, h, Nat.zero_le _, (fun s hs => by cases hs), Nat.zero_le _⟩ (.inl rfl) (.inl rfl) (Nat.le_refl _) (Nat.le_refl _) (fun i hi => absurd hi (by simp [locT, Ty.subs]))
theorem bld_once {E : Env} (hc : checkF E.m = none) : E.m.decls.length ≤ 60 ∧ ∀ i, i < E.m.decls.length → twiceB E.m.decls i = false :=
  ⟨(mayM_iff.1 (check_none.1 hc).1).2.2.1, (amiss_none.1 (check_none.1 hc).2).once⟩
theorem bld_ret {w Wz : World} {B : Nat} {E : Env} {ia : Option Addr} {ic : Nat} {da : Option Addr} {dc : Nat} {ea : Option Addr} {ec : Nat} {C : Ty → Int} {X : Ty → Ty} {base : Nat} {tv vv : Value} {T V T' V' : List NmZ} (hE : EnvC w B E ia ic da dc ea ec) (hst : BldK C X E.m.decls E.m.decls.length (T.map (·.1)) (V.map (·.1))) (hc : checkF E.m = none) (ho : okE E = true)
    (hr : Bld2 Wz base tv vv T' V') (hT : T'.map (·.1) = sortNm (T.map (·.1))) (hV : V'.map (·.1) = sortNm (V.map (·.1))) (hlT : T'.length ≤ 1000) (hlV : V'.length ≤ 1000) (hb : Below w.heap.size w Wz) :
    BldRet w (bldF E C X) (.returned (.tuple #[.agg #[.string E.pkg, .int .i64 E.major, .string E.m.name, tv, vv], .nilIface])) Wz := by
  rw [hst.done hc ho]
  obtain ⟨ta, tc, rfl, h1, h2⟩ := hr.t.at
  obtain ⟨va, vc, rfl, h3, h4⟩ := hr.v.at
  rw [hT] at h2
  rw [hV] at h4
  have e1 : T'.length = (sortNm (T.map (·.1))).length := by rw [← hT, List.length_map]
  have e2 : V'.length = (sortNm (V.map (·.1))).length := by rw [← hV, List.length_map]
  refine ⟨_, _, rfl, ⟨⟨hE.pk, hE.mdl.name, hE.mj, by show (sortNm _).length ≤ _; rw [← e1]; unfold maxLen; omega, by show (sortNm _).length ≤ _; rw [← e2]; unfold maxLen; omega⟩, ta, tc, va, vc, ?_, h2, h4, by show (sortNm _).length ≤ _; rw [← e1]; exact h1, by show (sortNm _).length ≤ _; rw [← e2]; exact h3⟩, rfl, hb⟩
  show _ = #[_, _, _, _, _]
  rw [e1, e2]
theorem BldW.push4 {w W5 x3 x4 : World} {G : Nat} {E : Env} {ia : Option Addr} {ic : Nat} {da : Option Addr} {dc : Nat} {ea : Option Addr} {ec : Nat} {C : Ty → Int} {X : Ty → Ty} {k gS cS n : Nat} {tv vv : Value} {T V : List NmZ} {z : NmZ} (h : BldW w W5 G E ia ic da dc ea ec C X k tv vv T V) (hn : V.length = n)
    (hx3 : Below W5.heap.size W5 x3) (hg : x3.grownBy x4 vv.ownBlock) (hS : x4.ownsRow (G + 1) 57 8 (.slice (some ⟨gS, 0, none⟩) (n + 1) cS) (n + 1) (V.flatMap nzEnc ++ nzEnc z)) (hat : vv.ownBlock = some gS ∨ x3.heap.size ≤ gS)
    (hz : NmZM W5 (InM W5 0 (G + 1) vv tv) z) (hk : BldK C X E.m.decls (k + 1) (T.map (·.1)) ((V ++ [z]).map (·.1))) :
    BldW w (x4.setCell ⟨G, 4, none⟩ (.slice (some ⟨gS, 0, none⟩) (n + 1) cS)) G E ia ic da dc ea ec C X (k + 1) tv (.slice (some ⟨gS, 0, none⟩) (n + 1) cS) T (V ++ [z]) := by
  have s0 := h.size
  have sg := h.gl
  have s3 := hx3.size
  have s4 := hg.size
  have hown : ∀ g, vv.ownBlock = some g → G + 1 ≤ g ∧ g < W5.heap.size := fun g hg => owns_lt h.rows.swap.t.row hg
  have key : ∀ b, b < W5.heap.size → vv.ownBlock ≠ some b → x4.heap[b]? = W5.heap[b]? := fun b hb hn => by
    rw [hg.block b (by omega) (fun e => hn e.symm), hx3.block b hb]
  have hno : ∀ b, b ≤ G → vv.ownBlock ≠ some b := fun b hb e => by have := hown _ e; omega
  have hB4 : Below w.heap.size w x4 := (h.le.trans (hx3.mono (by omega))).grown hg (by omega) fun q hq => by have := hown q hq; omega
  have hsz : (x4.setCell ⟨G, 4, none⟩ (.slice (some ⟨gS, 0, none⟩) (n + 1) cS)).heap.size = x4.heap.size := by simp [World.setCell]
  have hfar : ∀ b, b ≠ G → (x4.setCell ⟨G, 4, none⟩ (.slice (some ⟨gS, 0, none⟩) (n + 1) cS)).heap[b]? = x4.heap[b]? := fun b hb => Below.heap_setCell _ _ _ _ hb
  have mv : ∀ {b C T}, b < G → Blk W5 b C T → Blk (x4.setCell ⟨G, 4, none⟩ (.slice (some ⟨gS, 0, none⟩) (n + 1) cS)) b C T := fun hb hblk => (hfar _ (Nat.ne_of_lt hb)).trans ((key _ (by omega) (hno _ (by omega))).trans hblk)
  refine ⟨hB4.setCell (p := ⟨G, 4, none⟩) (by show w.heap.size ≤ G; omega) _, sg, by rw [hsz]; omega, mv (by omega) h.bm, mv (by omega) h.br, ?_, ?_, hk⟩
  · have := (show Blk x4 G _ _ from (key _ (by omega) (hno _ (Nat.le_refl _))).trans h.bo).set 4 (.slice (some ⟨gS, 0, none⟩) (n + 1) cS)
    simpa using this
  · exact (Bld2.push h.rows.swap hn hx3 hg (fun b hb => hfar b (by omega)) hsz hS hat hz).swap
theorem BldW.push3 {w W5 x3 x4 : World} {G : Nat} {E : Env} {ia : Option Addr} {ic : Nat} {da : Option Addr} {dc : Nat} {ea : Option Addr} {ec : Nat} {C : Ty → Int} {X : Ty → Ty} {k gS cS n : Nat} {tv vv : Value} {T V : List NmZ} {z : NmZ} (h : BldW w W5 G E ia ic da dc ea ec C X k tv vv T V) (hn : T.length = n)
    (hx3 : Below W5.heap.size W5 x3) (hg : x3.grownBy x4 tv.ownBlock) (hS : x4.ownsRow (G + 1) 57 8 (.slice (some ⟨gS, 0, none⟩) (n + 1) cS) (n + 1) (T.flatMap nzEnc ++ nzEnc z)) (hat : tv.ownBlock = some gS ∨ x3.heap.size ≤ gS)
    (hz : NmZM W5 (InM W5 0 (G + 1) tv vv) z) (hk : BldK C X E.m.decls (k + 1) ((T ++ [z]).map (·.1)) (V.map (·.1))) :
    BldW w (x4.setCell ⟨G, 3, none⟩ (.slice (some ⟨gS, 0, none⟩) (n + 1) cS)) G E ia ic da dc ea ec C X (k + 1) (.slice (some ⟨gS, 0, none⟩) (n + 1) cS) vv (T ++ [z]) V := by
  have s0 := h.size
  have sg := h.gl
  have s3 := hx3.size
  have s4 := hg.size
  have hown : ∀ g, tv.ownBlock = some g → G + 1 ≤ g ∧ g < W5.heap.size := fun g hg => owns_lt h.rows.t.row hg
  have key : ∀ b, b < W5.heap.size → tv.ownBlock ≠ some b → x4.heap[b]? = W5.heap[b]? := fun b hb hn => by
    rw [hg.block b (by omega) (fun e => hn e.symm), hx3.block b hb]
  have hno : ∀ b, b ≤ G → tv.ownBlock ≠ some b := fun b hb e => by have := hown _ e; omega
  have hB4 : Below w.heap.size w x4 := (h.le.trans (hx3.mono (by omega))).grown hg (by omega) fun q hq => by have := hown q hq; omega
  have hsz : (x4.setCell ⟨G, 3, none⟩ (.slice (some ⟨gS, 0, none⟩) (n + 1) cS)).heap.size = x4.heap.size := by simp [World.setCell]
  have hfar : ∀ b, b ≠ G → (x4.setCell ⟨G, 3, none⟩ (.slice (some ⟨gS, 0, none⟩) (n + 1) cS)).heap[b]? = x4.heap[b]? := fun b hb => Below.heap_setCell _ _ _ _ hb
  have mv : ∀ {b C T}, b < G → Blk W5 b C T → Blk (x4.setCell ⟨G, 3, none⟩ (.slice (some ⟨gS, 0, none⟩) (n + 1) cS)) b C T := fun hb hblk => (hfar _ (Nat.ne_of_lt hb)).trans ((key _ (by omega) (hno _ (by omega))).trans hblk)
  refine ⟨hB4.setCell (p := ⟨G, 3, none⟩) (by show w.heap.size ≤ G; omega) _, sg, by rw [hsz]; omega, mv (by omega) h.bm, mv (by omega) h.br, ?_, ?_, hk⟩
  · have := (show Blk x4 G _ _ from (key _ (by omega) (hno _ (Nat.le_refl _))).trans h.bo).set 3 (.slice (some ⟨gS, 0, none⟩) (n + 1) cS)
    simpa using this
  · exact (Bld2.push h.rows hn hx3 hg (fun b hb => hfar b (by omega)) hsz hS hat hz)
set_option maxRecDepth 100000 in
set_option maxHeartbeats 40000000 in
theorem bld_go (E : Env) (ia : Option Addr) (ic : Nat) (da : Option Addr) (dc : Nat) (ea : Option Addr) (ec : Nat) (B : Nat) (w : World) (C : Ty → Int) (X : Ty → Ty) (hE : EnvC w B E ia ic da dc ea ec) (hB : B ≤ w.heap.size) (hT : Tells E C X) (hc : checkF E.m = none) (ho : okE E = true) :
    Calls Tryz.prog 10 #[.agg (mdlCells E.m ia ic da dc), .string E.pkg, .int .i64 E.major, .slice ea E.env.length ec] w (BldRet w (bldF E C X)) := by
  have hck := fun W' (hb : Below w.heap.size w W') => check_c E.m ia ic da dc B W' (hE.mdl.under (hb.mono hB)) (Nat.le_trans hB hb.size)
  simp only [mdlCells] at hck ⊢
  have HCK := Lib.hid hck
  have HE := Lib.hid hE
  have hpk := hE.pk
  have hne := hE.ne
  have hmj1 := hE.mj.1
  have hmj2 := hE.mj.2
  clear hck hE
  have hsm := fun W' => Small_c E.pkg W' hpk
  have ho2 := ho
  simp only [okE, Bool.and_eq_true, decide_eq_true_eq] at ho2
  obtain ⟨hs1, hg1, hg2, hg3⟩ := ho2
  simp only [hs1] at hsm
  have HSM := Lib.hid hsm
  have HO := Lib.hid ho
  have HC := Lib.hid hc
  have HT := Lib.hid hT
  rw [hc] at HCK
  have h1 : ¬ E.major < 1 := by omega
  have h2 : ¬ 999999999 < E.major := by omega
  have h3 : ¬ 100 < (E.env.length : Int) := by omega
  clear hsm hs1 hc ho hT hpk
  go_enter Tryz.func10, Tryz.ntmps10
  go_upto_region 1 with fail
  obtain ⟨W, hWq, d0, d1, hz, hb⟩ := twoEX w #[.string E.m.name, .slice ia E.m.imps.length ic, .slice da E.m.decls.length dc] #[.string { data := #[] }, .int .i64 0, .string { data := #[] }, .slice none 0 0, .slice none 0 0] 25 33
  rewrite [← hWq]; clear hWq
  have BC := Lib.hid hb
  have D0 := Lib.hid d0
  have D1 := Lib.hid d1
  clear hb d0 d1 hz
  obtain ⟨m0, m1, m2⟩ := cellsT3 D0.out
  have ml := D0.out.lt
  obtain ⟨e0, e1, e2, e3, e4⟩ := cellsT5 D1.out
  have el := D1.out.lt
  go_upto_region 2 with (go_at_call 22; refine (HCK.out _ BC.out).mono ?_; rintro e Wc ⟨v, rfl, hv, hb⟩; obtain rfl := (show v = .nilIface from hv); have D0 := Lib.hid (D0.out.under hb D0.out.lt); have D1 := Lib.hid (D1.out.under hb D1.out.lt); have BC := Lib.hid (BC.out.trans (hb.mono BC.out.size)); clear hb; clear m0 m1 m2 e0 e1 e2 e3 e4 ml el; obtain ⟨m0, m1, m2⟩ := cellsT3 D0.out; have ml := D0.out.lt; obtain ⟨e0, e1, e2, e3, e4⟩ := cellsT5 D1.out; have el := D1.out.lt)
  go_upto_region 5 with fail
  have HGL := Lib.hid (show w.heap.size + 2 ≤ Wc.heap.size from el)
  clear m0 m1 m2 e0 e1 e2 e3 e4 ml el
  obtain ⟨W3, hWq, bN, hb, hzN⟩ := laidNX Wc #[.string E.pkg, .int .i64 E.major, .string E.m.name, .slice none 0 0, .slice none 0 0] 33
  rewrite [← hWq]; clear hWq
  have D0 := Lib.hid (D0.out.under hb D0.out.lt)
  have D1 := Lib.hid (D1.out.under hb D1.out.lt)
  have BC := Lib.hid (BC.out.trans (hb.mono BC.out.size))
  have D2 := Lib.hid bN
  clear bN hb hzN
  obtain ⟨m0, m1, m2⟩ := cellsT3 D0.out
  have ml := D0.out.lt
  obtain ⟨e0, e1, e2, e3, e4⟩ := cellsT5 D1.out
  have el := D1.out.lt
  obtain ⟨o0, o1, o2, o3, o4⟩ := cellsT5 D2.out
  have ol := D2.out.lt
  go_upto_region 7 with (go_at_call 23; refine (HSM.out _).mono ?_; rintro e Ws ⟨rfl, hb⟩; have D0 := Lib.hid (D0.out.under hb D0.out.lt); have D1 := Lib.hid (D1.out.under hb D1.out.lt); have D2 := Lib.hid (D2.out.under hb D2.out.lt); have BC := Lib.hid (BC.out.trans (hb.mono BC.out.size)); clear hb; clear m0 m1 m2 e0 e1 e2 e3 e4 o0 o1 o2 o3 o4 ml el ol; obtain ⟨m0, m1, m2⟩ := cellsT3 D0.out; have ml := D0.out.lt; obtain ⟨e0, e1, e2, e3, e4⟩ := cellsT5 D1.out; have el := D1.out.lt; obtain ⟨o0, o1, o2, o3, o4⟩ := cellsT5 D2.out; have ol := D2.out.lt)
  have HW0 := Lib.hid (show BldW w Ws Wc.heap.size E ia ic da dc ea ec C X 0 (.slice none 0 0) (.slice none 0 0) [] [] from ⟨BC.out, HGL.out, ol, D0.out, D1.out, D2.out, Bld2.nil _ _, BldK.zero C X E.m.decls⟩)
  clear e0 e1 e2 e3 e4 el o0 o1 o2 o3 o4 ol m0 m1 h1 h2 h3 hg1 hg2 hg3
  go_wp2_with fail
  go_loopw [49] (fun iv wr => ∃ (k : Nat) (tv vv : Value) (T V : List NmZ), k ≤ E.m.decls.length ∧ iv = .int .i64 k ∧ BldW w wr Wc.heap.size E ia ic da dc ea ec C X k tv vv T V) (fun iv _ => E.m.decls.length - (intOf iv).toNat)
  case atStart => exact ⟨0, _, _, _, _, Nat.zero_le _, rfl, HW0.out⟩
  case round =>
    rename World => wr
    clear m2 ml
    obtain ⟨k, tv, vv, T, V, hk, rfl, hr⟩ := hrel
    have HR := Lib.hid hr
    clear hr
    by_cases hlt : k < E.m.decls.length
    · obtain ⟨d, hd⟩ : ∃ d, E.m.decls[k] = d := ⟨_, rfl⟩
      obtain ⟨hfd, bd, od, na4, nc4, sa4, sc4, hda, hbd, htd, c0, c1, c2, c3, c4, c5, c6, c7, c8⟩ := (HE.out.mdl.under (HR.out.le.mono hB)).decls.elem hlt hd
      obtain rfl := hda
      have hsz := HR.out.size
      have hgl := HR.out.gl
      have lb : bd < wr.heap.size := by omega
      have hnd : E.m.decls.length ≤ 1000000 := HE.out.nd
      have hkI : (k : Int) < (E.m.decls.length : Int) := by omega
      have hk0 : (0 : Int) ≤ (k : Int) := by omega
      have HD := Lib.hid hd
      have HTD := Lib.hid htd
      have HFD := Lib.hid hfd
      have D0 := Lib.hid HR.out.bm
      have D1 := Lib.hid HR.out.br
      have D2 := Lib.hid HR.out.bo
      have BC := Lib.hid HR.out.le
      have HRO := Lib.hid HR.out.rows
      have HST := Lib.hid HR.out.st
      have BW := Lib.hid (Below.refl wr.heap.size wr)
      obtain ⟨m0, m1, m2⟩ := cellsT3 D0.out
      have ml := D0.out.lt
      clear hd htd hfd HR hbd
      go_upto_region 10 with fail
      clear c0 c1 c2 c3 c4 c5 c6 c7 c8 lb
      clear m0 m1 m2 ml
      obtain ⟨W1, hWq, bN, hb, hzN⟩ := laidNX wr #[.int .i64 d.kind, .string d.name, .int .i64 d.ty.kind, .string d.ty.pkg, .int .i64 d.ty.major, .string d.ty.mod, .string d.ty.name, .slice na4 d.ty.names.length nc4, .slice sa4 d.ty.subs.length sc4] 55
      rewrite [← hWq]; clear hWq
      have D0 := Lib.hid (D0.out.under hb D0.out.lt)
      have D1 := Lib.hid (D1.out.under hb D1.out.lt)
      have D2 := Lib.hid (D2.out.under hb D2.out.lt)
      have HTD := Lib.hid (HTD.out.under (hb.mono (Nat.le_trans hB BC.out.size)))
      have BW := Lib.hid (BW.out.trans (hb.mono BW.out.size))
      have BC := Lib.hid (BC.out.trans (hb.mono BC.out.size))
      have D3 := Lib.hid bN
      clear bN hb hzN
      obtain ⟨m0, m1, m2⟩ := cellsT3 D0.out
      have ml := D0.out.lt
      obtain ⟨e0, e1, e2, e3, e4⟩ := cellsT5 D1.out
      have el := D1.out.lt
      obtain ⟨o0, o1, o2, o3, o4⟩ := cellsT5 D2.out
      have ol := D2.out.lt
      obtain ⟨d0, d1, d2, d3, d4, d5, d6, d7, d8⟩ := cellsT9 D3.out
      have dl := D3.out.lt
      have hW1 := D3.out.lt
      go_upto_region 11 with fail
      clear m0 m1 m2 e0 e1 e2 e3 e4 o0 o1 o2 o3 o4 d0 d1 d2 d3 d4 d5 d6 d7 d8 ml el ol dl
      obtain ⟨W2, hWq, bN, hb, hzN⟩ := laidNX W1 #[.int .i64 d.ty.kind, .string d.ty.pkg, .int .i64 d.ty.major, .string d.ty.mod, .string d.ty.name, .slice na4 d.ty.names.length nc4, .slice sa4 d.ty.subs.length sc4] 53
      rewrite [← hWq]; clear hWq
      have D0 := Lib.hid (D0.out.under hb D0.out.lt)
      have D1 := Lib.hid (D1.out.under hb D1.out.lt)
      have D2 := Lib.hid (D2.out.under hb D2.out.lt)
      have D3 := Lib.hid (D3.out.under hb D3.out.lt)
      have HTD := Lib.hid (HTD.out.under (hb.mono (Nat.le_trans hB BC.out.size)))
      have BW := Lib.hid (BW.out.trans (hb.mono BW.out.size))
      have BC := Lib.hid (BC.out.trans (hb.mono BC.out.size))
      have D4 := Lib.hid bN
      clear bN hb hzN
      obtain ⟨m0, m1, m2⟩ := cellsT3 D0.out
      have ml := D0.out.lt
      obtain ⟨e0, e1, e2, e3, e4⟩ := cellsT5 D1.out
      have el := D1.out.lt
      obtain ⟨o0, o1, o2, o3, o4⟩ := cellsT5 D2.out
      have ol := D2.out.lt
      obtain ⟨d0, d1, d2, d3, d4, d5, d6, d7, d8⟩ := cellsT9 D3.out
      have dl := D3.out.lt
      obtain ⟨y0, y1, y2, y3, y4, y5, y6⟩ := cellsT7 D4.out
      have yl := D4.out.lt
      go_upto_if 58 with fail
      go_cut [] (fun wx => ∃ nb mb sb ob, Blk wx W1.heap.size (tyCells (srcT d) nb mb sb ob) 53 ∧ TyC wx B (srcT d) (tyCells (srcT d) nb mb sb ob) ∧ Fr (· = W1.heap.size) W2 wx)
      case first =>
        by_cases h1 : d.kind = 1
        · have hb1 : (d.kind == 1) = true := by simp [h1]
          have hs : srcT d = locT d.name := if_pos h1
          have HSR := Lib.hid hs
          clear h1 hs
          have f0 := D4.out.free 0
          have f1 := D4.out.free 1
          have f2 := D4.out.free 2
          have f3 := D4.out.free 3
          have f4 := D4.out.free 4
          have f5 := D4.out.free 5
          have f6 := D4.out.free 6
          go_wp2_with fail
          go_meet
          have hp := pf7 (.int .i64 8) (.string { data := #[] }) (.int .i64 0) (.string { data := #[] }) (.string d.name) (.slice none 0 0) (.slice none 0 0) D4.out
          have hfz := fr7 W2 (g := W1.heap.size) (.int .i64 8) (.string { data := #[] }) (.int .i64 0) (.string { data := #[] }) (.string d.name) (.slice none 0 0) (.slice none 0 0)
          rw [HSR.out]
          exact ⟨none, 0, none, 0, hp, locT_c _ B d.name HFD.out.name, hfz⟩
        · have hb1 : (d.kind == 1) = false := by simp [h1]
          have hs : srcT d = d.ty := if_neg h1
          have HSR := Lib.hid hs
          clear h1 hs
          go_wp2_with fail
          go_meet
          rw [HSR.out]
          exact ⟨na4, nc4, sa4, sc4, D4.out, HTD.out, ⟨rfl, rfl, rfl, Nat.le_refl _, fun _ _ _ => rfl⟩⟩
      case rest =>
        rename World => wx
        obtain ⟨nb, mb, sb, ob, hb4, htx, hf⟩ := hcut
        clear m0 m1 m2 e0 e1 e2 e3 e4 o0 o1 o2 o3 o4 d0 d1 d2 d3 d4 d5 d6 d7 d8 y0 y1 y2 y3 y4 y5 y6 ml el ol dl yl
        have hW2 := D4.out.lt
        have D0 := Lib.hid (D0.out.fr hf (fun e => by have e : w.heap.size = W1.heap.size := e; omega))
        have D1 := Lib.hid (D1.out.fr hf (fun e => by have e : w.heap.size + 1 = W1.heap.size := e; omega))
        have D2 := Lib.hid (D2.out.fr hf (fun e => by have e : Wc.heap.size = W1.heap.size := e; omega))
        have D3 := Lib.hid (D3.out.fr hf (fun e => by have e : wr.heap.size = W1.heap.size := e; omega))
        have hfb : Below wr.heap.size W2 wx := hf.below (fun b e => by have e : b = W1.heap.size := e; omega) (by omega)
        have BC := Lib.hid (BC.out.trans (hfb.mono (show w.heap.size ≤ wr.heap.size by omega)))
        have BW := Lib.hid (BW.out.trans hfb)
        have HRX := Lib.hid (HRO.out.under BW.out)
        have D4 := Lib.hid hb4
        have HTX := Lib.hid htx
        have hsx : Wc.heap.size + 1 ≤ wx.heap.size := Nat.le_trans hsz BW.out.size
        clear hf hfb hb4 htx hW2
        obtain ⟨d0, d1, d2, d3, d4, d5, d6, d7, d8⟩ := cellsT9 D3.out
        have dl := D3.out.lt
        by_cases h2 : d.kind = 2
        · have hb2 : (d.kind == 2) = true := by simp [h2]
          have HNX := Lib.hid (show BldW w wx Wc.heap.size E ia ic (some ⟨bd, od, none⟩) dc ea ec C X (k + 1) tv vv T V from ⟨BC.out, hgl, hsx, D0.out, D1.out, D2.out, HRX.out, HST.out.hid hlt HD.out h2⟩)
          clear h2
          go_wp2_with fail
          first
            | exact ⟨⟨k + 1, _, _, _, _, by omega, by go_num, HNX.out⟩, by simp [intOf]; omega⟩
            | (go_roundw
               case rel => exact ⟨k + 1, _, _, _, _, by omega, by go_num, HNX.out⟩
               case measure => simp [intOf]; omega)
        · have hb2 : (d.kind == 2) = false := by simp [h2]
          have hex := expand_c E ia ic (some ⟨bd, od, none⟩) dc ea ec B (srcT d) _ wx (HE.out.under (BC.out.mono hB)) HTX.out (Nat.le_trans hB BC.out.size)
          have h4 := D4.out
          simp only [mdlCells, tyCells] at hex h4
          have HEX := Lib.hid hex
          have D4 := Lib.hid h4
          have H2 := Lib.hid h2
          clear hex h4 h2 d0 d1 d2 d3 d4 d5 d6 d7 d8 dl
          obtain ⟨m0, m1, m2⟩ := cellsT3 D0.out
          have ml := D0.out.lt
          obtain ⟨e0, e1, e2, e3, e4⟩ := cellsT5 D1.out
          have el := D1.out.lt
          obtain ⟨o0, o1, o2, o3, o4⟩ := cellsT5 D2.out
          have ol := D2.out.lt
          obtain ⟨d0, d1, d2, d3, d4, d5, d6, d7, d8⟩ := cellsT9 D3.out
          have dl := D3.out.lt
          obtain ⟨y0, y1, y2, y3, y4, y5, y6⟩ := cellsT7 D4.out
          have yl := D4.out.lt
          go_upto_region 15 with (go_at_call 24; refine (HEX.out).mono ?_; rintro e wn ⟨c, x, cs6, rfl, hxi, hty, hb⟩; obtain ⟨na6, nc6, sa6, sc6, f6, rfl, -⟩ := hty.inv; simp only [tyCells]; have HTY := Lib.hid hty; have HWX := Lib.hid (show W1.heap.size < wx.heap.size from yl); have HWS := Lib.hid hb.size; have HXI := Lib.hid (hxi.uniq (HT.out (srcT d))); have BW := Lib.hid (BW.out.trans (hb.mono BW.out.size)); have HRX := Lib.hid (HRX.out.under hb); clear hxi hty; have D0 := Lib.hid (D0.out.under hb D0.out.lt); have D1 := Lib.hid (D1.out.under hb D1.out.lt); have D2 := Lib.hid (D2.out.under hb D2.out.lt); have D3 := Lib.hid (D3.out.under hb D3.out.lt); have D4 := Lib.hid (D4.out.under hb D4.out.lt); have BC := Lib.hid (BC.out.trans (hb.mono BC.out.size)); have f0 := D4.out.free 0; have f1 := D4.out.free 1; have f2 := D4.out.free 2; have f3 := D4.out.free 3; have f4 := D4.out.free 4; have f5 := D4.out.free 5; have f6 := D4.out.free 6; clear hb; clear m0 m1 m2 e0 e1 e2 e3 e4 o0 o1 o2 o3 o4 d0 d1 d2 d3 d4 d5 d6 d7 d8 y0 y1 y2 y3 y4 y5 y6 ml el ol dl yl; obtain ⟨m0, m1, m2⟩ := cellsT3 D0.out; have ml := D0.out.lt; obtain ⟨e0, e1, e2, e3, e4⟩ := cellsT5 D1.out; have el := D1.out.lt; obtain ⟨o0, o1, o2, o3, o4⟩ := cellsT5 D2.out; have ol := D2.out.lt; obtain ⟨d0, d1, d2, d3, d4, d5, d6, d7, d8⟩ := cellsT9 D3.out; have dl := D3.out.lt; obtain ⟨y0, y1, y2, y3, y4, y5, y6⟩ := cellsT7 D4.out; have yl := D4.out.lt)
          have hp := pf7 (.int .i64 x.kind) (.string x.pkg) (.int .i64 x.major) (.string x.mod) (.string x.name) (.slice na6 x.names.length nc6) (.slice sa6 x.subs.length sc6) D4.out
          have hfz := fr7 wn (g := W1.heap.size) (.int .i64 x.kind) (.string x.pkg) (.int .i64 x.major) (.string x.mod) (.string x.name) (.slice na6 x.names.length nc6) (.slice sa6 x.subs.length sc6)
          generalize (((((((wn.setCell ⟨W1.heap.size, 0, none⟩ (.int .i64 x.kind)).setCell ⟨W1.heap.size, 1, none⟩ (.string x.pkg)).setCell ⟨W1.heap.size, 2, none⟩ (.int .i64 x.major)).setCell ⟨W1.heap.size, 3, none⟩ (.string x.mod)).setCell ⟨W1.heap.size, 4, none⟩ (.string x.name)).setCell ⟨W1.heap.size, 5, none⟩ (.slice na6 x.names.length nc6)).setCell ⟨W1.heap.size, 6, none⟩ (.slice sa6 x.subs.length sc6)) = W5 at hp hfz ⊢
          clear m0 m1 m2 e0 e1 e2 e3 e4 o0 o1 o2 o3 o4 d0 d1 d2 d3 d4 d5 d6 d7 d8 y0 y1 y2 y3 y4 y5 y6 ml el ol dl yl f0 f1 f2 f3 f4 f5 f6
          have lw1 := HWX.out
          have hfb : Below wr.heap.size wn W5 := hfz.below (fun b e => by have e : b = W1.heap.size := e; omega) (Nat.le_trans (Nat.le_of_lt hW1) (Nat.le_of_lt (Nat.lt_of_lt_of_le lw1 HWS.out)))
          have D0 := Lib.hid (D0.out.fr hfz (fun e => by have e : w.heap.size = W1.heap.size := e; omega))
          have D1 := Lib.hid (D1.out.fr hfz (fun e => by have e : w.heap.size + 1 = W1.heap.size := e; omega))
          have D2 := Lib.hid (D2.out.fr hfz (fun e => by have e : Wc.heap.size = W1.heap.size := e; omega))
          have D3 := Lib.hid (D3.out.fr hfz (fun e => by have e : wr.heap.size = W1.heap.size := e; omega))
          have D4 := Lib.hid hp
          have BC := Lib.hid (BC.out.trans (hfb.mono (show w.heap.size ≤ wr.heap.size by omega)))
          have BW := Lib.hid (BW.out.trans hfb)
          have HRX := Lib.hid (HRO.out.under BW.out)
          have HTY := Lib.hid (show TyM W5 (fun b => wx.heap.size ≤ b ∧ b < W5.heap.size) x _ from HTY.out.move (fun b hb => ⟨hb.1, Nat.lt_of_lt_of_le hb.2 hfz.size⟩) fun p hp => hfz.cell hp.2 (fun e => by have := hp.1; have e : p.block = W1.heap.size := e; omega))
          clear hp hfz hfb
          by_cases h0 : c = 0
          · subst h0
            simp only [codeV, if_pos]
            obtain ⟨ta, tc, htv, -, -⟩ := HRX.out.t.at
            obtain ⟨va, vc, hvv, -, -⟩ := HRX.out.v.at
            subst htv hvv
            have HW5 := Lib.hid (show BldW w W5 Wc.heap.size E ia ic (some ⟨bd, od, none⟩) dc ea ec C X k _ _ T V from ⟨BC.out, hgl, Nat.le_trans hsz BW.out.size, D0.out, D1.out, D2.out, HRX.out, HST.out⟩)
            obtain ⟨i0, hi, hz0, hz1, hz2⟩ := info_parts infoNamed
            obtain ⟨o0, o1, o2, o3, o4⟩ := cellsT5 D2.out
            have ol := D2.out.lt
            obtain ⟨d0, d1, d2, d3, d4, d5, d6, d7, d8⟩ := cellsT9 D3.out
            have dl := D3.out.lt
            obtain ⟨y0, y1, y2, y3, y4, y5, y6⟩ := cellsT7 D4.out
            have yl := D4.out.lt
            by_cases h4 : d.kind = 4
            · have hb4 : (d.kind == 4) = true := by simp [h4]
              have HH4 := Lib.hid (show BldK C X E.m.decls (k + 1) (T.map (·.1)) ((V ++ [((⟨d.name, x⟩, na6, nc6, sa6, sc6) : NmZ)]).map (·.1)) by rw [List.map_append]; have := HST.out.val hlt HD.out h4 HXI.out.1.symm; rw [nmOf, ← HXI.out.2] at this; exact this)
              have HZZ := Lib.hid (show NmZM W5 (InM W5 0 (Wc.heap.size + 1) (.slice va V.length vc) (.slice ta T.length tc)) (⟨d.name, x⟩, na6, nc6, sa6, sc6) from ⟨HFD.out.name, HTY.out.mono fun b hb => .inr ⟨by have := hb.1; omega, hb.2, fun e => by have := owns_lt HRO.out.v.row e; have := hb.1; omega, fun e => by have := owns_lt HRO.out.t.row e; have := hb.1; omega⟩⟩)
              obtain ⟨hX3, hbS3, hszX3⟩ := laid0 W5 #[.string d.name, .int .i64 x.kind, .string x.pkg, .int .i64 x.major, .string x.mod, .string x.name, .slice na6 x.names.length nc6, .slice sa6 x.subs.length sc6] 57
              have HOW3 := Lib.hid (owns_under HRX.out.v.row hX3)
              have HX3 := Lib.hid hX3
              have HS3 := Lib.hid hbS3
              have HZ3 := Lib.hid hszX3
              have HBX := Lib.hid (D2.out.under hX3 D2.out.lt)
              have hone8 : ∀ u ∈ (#[.string d.name, .int .i64 x.kind, .string x.pkg, .int .i64 x.major, .string x.mod, .string x.name, .slice na6 x.names.length nc6, .slice sa6 x.subs.length sc6] : Array Value).toList, u.oneCell' = true := by simp [Value.oneCell']
              have HONE := Lib.hid hone8
              have HSB := Lib.hid (show ((.slice va V.length vc) : Value).ownBlock ≠ some Wc.heap.size from fun e => by have := owns_lt HRX.out.v.row e; omega)
              have hkk : V.length ≤ 1000000 := by have := HST.out.lenT; rw [List.length_map, List.length_map] at this; omega
              have hb5 : Wc.heap.size + 1 ≤ W5.heap.size + 1 := by have := BW.out.size; omega
              clear hX3 hbS3 hszX3 hone8 h4
              go_wp2_with (at_builtin; go_loud (refine wpList_append_lies _ rfl _ _ 31 rfl (Wc.heap.size + 1) 57 i0 (.agg #[.string { data := #[] }, .int .i64 0, .string { data := #[] }, .int .i64 0, .string { data := #[] }, .string { data := #[] }, .slice none 0 0, .slice none 0 0]) 8 128 Tryz.underlying31 hi hz0 hz1 hz2 rfl (by decide) (.slice va V.length vc) V.length (V.flatMap nzEnc) rfl HOW3.out ⟨W5.heap.size, 0, none⟩ 1 1 (#[.string d.name, .int .i64 x.kind, .string x.pkg, .int .i64 x.major, .string x.mod, .string x.name, .slice na6 x.names.length nc6, .slice sa6 x.subs.length sc6] : Array Value).toList rfl rfl (World.news_of_block HS3.out) HONE.out (by decide) (by unfold maxLen; omega) (by omega) (by rw [HZ3.out]; exact hb5) _ rfl ?_; intro gS cS x4 hownS hgS hatS hltS; have hb4 := grown_box hgS HBX.out HSB.out; have r6 := hb4.cell 4; have rf6 := hb4.free 4; have rl := hb4.lt; simp at r6; have HOW := Lib.hid hownS; have HGR := Lib.hid hgS; have HAT := Lib.hid hatS; clear hownS hgS hatS hb4; have HNX := Lib.hid (BldW.push4 (z := (⟨d.name, x⟩, na6, nc6, sa6, sc6)) HW5.out rfl HX3.out HGR.out HOW.out (HAT.out.imp id fun e => Nat.le_of_eq e.symm) HZZ.out HH4.out)))
              first
                | exact ⟨⟨k + 1, _, _, _, _, by omega, by go_num, HNX.out⟩, by simp [intOf]; omega⟩
                | (go_roundw
                   case rel => exact ⟨k + 1, _, _, _, _, by omega, by go_num, HNX.out⟩
                   case measure => simp [intOf]; omega)
            · have hb4 : (d.kind == 4) = false := by simp [h4]
              have HH4 := Lib.hid (show BldK C X E.m.decls (k + 1) ((T ++ [((⟨d.name, x⟩, na6, nc6, sa6, sc6) : NmZ)]).map (·.1)) (V.map (·.1)) by rw [List.map_append]; have := HST.out.typ hlt HD.out H2.out h4 HXI.out.1.symm; rw [nmOf, ← HXI.out.2] at this; exact this)
              have HZZ := Lib.hid (show NmZM W5 (InM W5 0 (Wc.heap.size + 1) (.slice ta T.length tc) (.slice va V.length vc)) (⟨d.name, x⟩, na6, nc6, sa6, sc6) from ⟨HFD.out.name, HTY.out.mono fun b hb => .inr ⟨by have := hb.1; omega, hb.2, fun e => by have := owns_lt HRO.out.t.row e; have := hb.1; omega, fun e => by have := owns_lt HRO.out.v.row e; have := hb.1; omega⟩⟩)
              obtain ⟨hX3, hbS3, hszX3⟩ := laid0 W5 #[.string d.name, .int .i64 x.kind, .string x.pkg, .int .i64 x.major, .string x.mod, .string x.name, .slice na6 x.names.length nc6, .slice sa6 x.subs.length sc6] 57
              have HOW3 := Lib.hid (owns_under HRX.out.t.row hX3)
              have HX3 := Lib.hid hX3
              have HS3 := Lib.hid hbS3
              have HZ3 := Lib.hid hszX3
              have HBX := Lib.hid (D2.out.under hX3 D2.out.lt)
              have hone8 : ∀ u ∈ (#[.string d.name, .int .i64 x.kind, .string x.pkg, .int .i64 x.major, .string x.mod, .string x.name, .slice na6 x.names.length nc6, .slice sa6 x.subs.length sc6] : Array Value).toList, u.oneCell' = true := by simp [Value.oneCell']
              have HONE := Lib.hid hone8
              have HSB := Lib.hid (show ((.slice ta T.length tc) : Value).ownBlock ≠ some Wc.heap.size from fun e => by have := owns_lt HRX.out.t.row e; omega)
              have hkk : T.length ≤ 1000000 := by have := HST.out.lenT; rw [List.length_map, List.length_map] at this; omega
              have hb5 : Wc.heap.size + 1 ≤ W5.heap.size + 1 := by have := BW.out.size; omega
              clear hX3 hbS3 hszX3 hone8 h4
              go_wp2_with (at_builtin; go_loud (refine wpList_append_lies _ rfl _ _ 31 rfl (Wc.heap.size + 1) 57 i0 (.agg #[.string { data := #[] }, .int .i64 0, .string { data := #[] }, .int .i64 0, .string { data := #[] }, .string { data := #[] }, .slice none 0 0, .slice none 0 0]) 8 128 Tryz.underlying31 hi hz0 hz1 hz2 rfl (by decide) (.slice ta T.length tc) T.length (T.flatMap nzEnc) rfl HOW3.out ⟨W5.heap.size, 0, none⟩ 1 1 (#[.string d.name, .int .i64 x.kind, .string x.pkg, .int .i64 x.major, .string x.mod, .string x.name, .slice na6 x.names.length nc6, .slice sa6 x.subs.length sc6] : Array Value).toList rfl rfl (World.news_of_block HS3.out) HONE.out (by decide) (by unfold maxLen; omega) (by omega) (by rw [HZ3.out]; exact hb5) _ rfl ?_; intro gS cS x4 hownS hgS hatS hltS; have hb4 := grown_box hgS HBX.out HSB.out; have r6 := hb4.cell 3; have rf6 := hb4.free 3; have rl := hb4.lt; simp at r6; have HOW := Lib.hid hownS; have HGR := Lib.hid hgS; have HAT := Lib.hid hatS; clear hownS hgS hatS hb4; have HNX := Lib.hid (BldW.push3 (z := (⟨d.name, x⟩, na6, nc6, sa6, sc6)) HW5.out rfl HX3.out HGR.out HOW.out (HAT.out.imp id fun e => Nat.le_of_eq e.symm) HZZ.out HH4.out)))
              first
                | exact ⟨⟨k + 1, _, _, _, _, by omega, by go_num, HNX.out⟩, by simp [intOf]; omega⟩
                | (go_roundw
                   case rel => exact ⟨k + 1, _, _, _, _, by omega, by go_num, HNX.out⟩
                   case measure => simp [intOf]; omega)
          · have hcv : codeV c = .iface 62 (.int .i64 c) := if_neg h0
            rw [hcv]
            have HBAD := Lib.hid (HST.out.bad hlt HD.out H2.out (by rw [← HXI.out.1]; exact h0) HC.out HO.out)
            have HEB := Lib.hid (show errB (C (srcT d), some k, zIfq) = some (c, some k) by rw [errB, if_neg (by show ¬ C (srcT d) = 0; rw [← HXI.out.1]; exact h0), ← HXI.out.1])
            obtain ⟨hX3, hbS3, hszX3⟩ := laid0 W5 #[.int .i64 k, .iface 62 (.int .i64 c)] 67
            have DX := Lib.hid (D1.out.under hX3 D1.out.lt)
            have HX3 := Lib.hid hX3
            have HS3 := Lib.hid hbS3
            have hsB := BC.out.size
            have BX := Lib.hid (BC.out.trans (hX3.mono BC.out.size))
            obtain ⟨e0, e1, e2, e3, e4⟩ := cellsT5 DX.out
            have el := DX.out.lt
            have f0 := DX.out.free 0
            have f1 := DX.out.free 1
            have f2 := DX.out.free 2
            have f3 := DX.out.free 3
            have f4 := DX.out.free 4
            have HNE := Lib.hid (show W5.heap.size < (W5.alloc (.cells #[.int .i64 k, .iface 62 (.int .i64 c)] 67)).heap.size by rw [hszX3]; omega)
            have HNW := Lib.hid (show W5.heap.size ≠ w.heap.size + 1 by have := D1.out.lt; omega)
            clear hX3 hbS3 hszX3 hsB h0 hcv
            clear hkI hk0 hb2 hgl hsz hW1 hnd
            go_wp2_with fail
            obtain ⟨Wz, hWq, hp, hbp, hfz⟩ := sf5 (.string { data := #[] }) (.int .i64 0) (.string { data := #[] }) (.slice none 0 0) (.slice none 0 0) DX.out BX.out (Nat.le_succ _)
            rewrite [← hWq]; clear hWq
            obtain ⟨r0, r1, r2, r3, r4⟩ := cellsT5 hp
            refine bodyPost_ret (by simp [results, Tryz.results10, go_sem, r0, r1, r2, r3, r4]; try rfl) rfl ?_
            rw [HBAD.out]
            exact ⟨_, _, rfl, zIfx_c _ _, by rw [HEB.out]; exact ⟨W5.heap.size, rfl, (hfz.block _ HNE.out (fun e => HNW.out e)).trans HS3.out⟩, hbp⟩
    · obtain rfl : k = E.m.decls.length := by omega
      have hkI : ¬ (E.m.decls.length : Int) < (E.m.decls.length : Int) := by omega
      obtain ⟨hd60, honce⟩ := bld_once HC.out
      obtain ⟨ta, tc, htv, -, -⟩ := HR.out.rows.t.at
      obtain ⟨va, vc, hvv, -, -⟩ := HR.out.rows.v.at
      subst htv hvv
      have hst := HR.out.st
      have hlT := hst.lenT
      rw [List.length_map, List.length_map] at hlT
      have hsz := HR.out.size
      have hgl := HR.out.gl
      have hnT : ((T.map (·.1)).map Nm.name).Nodup := by rw [hst.t, List.take_length]; exact tys_nodup X honce
      have hnV : ((V.map (·.1)).map Nm.name).Nodup := by rw [hst.v, List.take_length]; exact vas_nodup X honce
      have HS1 := Lib.hid (sortB_c HR.out.rows rfl (by omega) hnT)
      have HNV := Lib.hid hnV
      have HLV := Lib.hid (show V.length ≤ 1000000 by omega)
      obtain ⟨o0, o1, o2, o3, o4⟩ := cellsT5 HR.out.bo
      have ol := HR.out.bo.lt
      clear hnT hnV hst honce
      go_upto_region 23 with (go_at_call 27; refine HS1.out.mono ?_; rintro e w1 ⟨rfl, hb1, T', hB1, hT1, hl1⟩; have HB1 := Lib.hid hb1; have HR1 := Lib.hid hB1; have HT1 := Lib.hid hT1; have BO := Lib.hid (show Blk w1 Wc.heap.size _ _ from (hb1.block _ (Nat.lt_succ_self _)).trans HR.out.bo); clear hb1 hB1 hT1 o0 o1 o2 o3 o4 ol; obtain ⟨o0, o1, o2, o3, o4⟩ := cellsT5 BO.out; have ol := BO.out.lt)
      have HS2 := Lib.hid (sortB_c HR1.out.swap rfl HLV.out HNV.out)
      go_upto_region 24 with (go_at_call 27; refine HS2.out.mono ?_; rintro e w2 ⟨rfl, hb2, V', hB2, hV2, hl2⟩; have HB2 := Lib.hid hb2; have HR2 := Lib.hid hB2.swap; have HV2 := Lib.hid hV2; have BO2 := Lib.hid (show Blk w2 Wc.heap.size _ _ from (hb2.block _ (Nat.lt_succ_self _)).trans BO.out); clear hb2 hB2 hV2 o0 o1 o2 o3 o4 ol; obtain ⟨o0, o1, o2, o3, o4⟩ := cellsT5 BO2.out; have ol := BO2.out.lt)
      have br2 : Blk w2 (w.heap.size + 1) _ _ := (HB2.out.block _ (by omega)).trans ((HB1.out.block _ (by omega)).trans HR.out.br)
      have BR2 := Lib.hid br2
      obtain ⟨e0, e1, e2, e3, e4⟩ := cellsT5 br2
      have el := br2.lt
      have f0 := br2.free 0
      have f1 := br2.free 1
      have f2 := br2.free 2
      have f3 := br2.free 3
      have f4 := br2.free 4
      have HBE := Lib.hid (HR.out.le.trans ((HB1.out.mono (show w.heap.size ≤ Wc.heap.size + 1 by omega)).trans (HB2.out.mono (show w.heap.size ≤ Wc.heap.size + 1 by omega))))
      clear br2
      go_wp2_with fail
      obtain ⟨Wz, hWq, hp, hbp, hfz⟩ := sf5 (.string E.pkg) (.int .i64 E.major) (.string E.m.name) (.slice ta T.length tc) (.slice va V.length vc) BR2.out HBE.out (Nat.le_succ _)
      rewrite [← hWq]; clear hWq
      obtain ⟨r0, r1, r2, r3, r4⟩ := cellsT5 hp
      refine bodyPost_ret (by simp [results, Tryz.results10, go_sem, r0, r1, r2, r3, r4]; try rfl) rfl ?_
      exact bld_ret HE.out HR.out.st HC.out HO.out (HR2.out.far (fun b h1 h2 => hfz.block b h2 (fun e => by have e : b = w.heap.size + 1 := e; omega)) hfz.size) HT1.out HV2.out (by omega) (by omega) hbp
end Go.Proofs.YtjeldfipipkfiaaGreat
namespace Go.Proofs.YtjeldfipipkfiaaGreat
open Go.RowKit
set_option linter.unusedSimpArgs false
set_option linter.unusedVariables false
theorem bld_c (E : Env) (C : Ty → Int) (X : Ty → Ty) (ia : Option Addr) (ic : Nat) (da : Option Addr) (dc : Nat) (ea : Option Addr) (ec : Nat) (B : Nat) (w : World) (hE : EnvC w B E ia ic da dc ea ec) (hB : B ≤ w.heap.size) (hT : Tells E C X) :
    Calls Tryz.prog 10 #[.agg (mdlCells E.m ia ic da dc), .string E.pkg, .int .i64 E.major, .slice ea E.env.length ec] w (BldRet w (bldF E C X)) := by
  cases hc : checkF E.m with
  | some p => rw [bld_amiss hc]; exact bld_bad E ia ic da dc ea ec B w hE hB hc
  | none =>
    cases ho : okE E with
    | false => rw [bld_arg hc ho]; exact bld_argC E ia ic da dc ea ec B w hE hB hc ho
    | true => exact bld_go E ia ic da dc ea ec B w C X hE hB hT hc ho
end Go.Proofs.YtjeldfipipkfiaaGreat
