/- The contract of merlonref10.Build. -/
import Derived.Test.YtjeldfipipkfiaaGreatDoorGBldE
import Derived.Test.YtjeldfipipkfiaaGreatDoorGPut
import Derived.Test.YtjeldfipipkfiaaGreatDoorRfAll
namespace Go.Proofs.YtjeldfipipkfiaaGreatDoor
open Go.RowKit
set_option linter.unusedSimpArgs false
set_option linter.unusedVariables false
def RbRet (w : World) (q : Int × Option Nat × If) (e : Ending) (w' : World) : Prop := ∃ cs c p, e = .returned (.tuple #[.agg cs, .int .i64 c, .int .i64 p]) ∧ IfC w' w'.heap.size q.2.2 cs ∧ (c, p) = numE (errB q) ∧ Below w.heap.size w w'
structure RbC (w : World) (B : Nat) (E : Env) (ia : Option Addr) (ic : Nat) (da : Option Addr) (dc : Nat) (ea : Option Addr) (ec : Nat) : Prop where
  rx : RxC w B E ia ic da dc ea ec
  pk : E.pkg.size ≤ maxLen
  j1 : -9223372036854775808 ≤ E.major
  j2 : E.major ≤ 9223372036854775807
  hm : ∀ d ∈ E.m.decls, manyT d.ty ≤ 1000000000
  ne : E.env.length ≤ 1000000
theorem RbC.under {w w' : World} {B : Nat} {E : Env} {ia : Option Addr} {ic : Nat} {da : Option Addr} {dc : Nat} {ea : Option Addr} {ec : Nat} (h : RbC w B E ia ic da dc ea ec) (hb : Below B w w') : RbC w' B E ia ic da dc ea ec := ⟨h.rx.under hb, h.pk, h.j1, h.j2, h.hm, h.ne⟩
structure RbW (w wr : World) (G : Nat) (E : Env) (ia : Option Addr) (ic : Nat) (da : Option Addr) (dc : Nat) (ea : Option Addr) (ec : Nat) (C : Ty → Int) (X : Ty → Ty) (k : Nat) (A1 : Option Addr) (c1 : Nat) (A2 : Option Addr) (c2 : Nat) (T V : List Nm) : Prop where
  le : Below w.heap.size w wr
  gl : w.heap.size + 2 ≤ G
  size : G + 1 ≤ wr.heap.size
  bm : Blk wr w.heap.size #[.string E.m.name, .slice ia E.m.imps.length ic, .slice da E.m.decls.length dc] 25
  br : Blk wr (w.heap.size + 1) #[.string { data := #[] }, .int .i64 0, .string { data := #[] }, .slice none 0 0, .slice none 0 0] 51
  bo : Blk wr G #[.string E.pkg, .int .i64 E.major, .string E.m.name, .slice A1 (sortNm T).length c1, .slice A2 (sortNm V).length c2] 51
  rt : NmsM wr (fun b => G + 1 ≤ b ∧ b < wr.heap.size) A1 (sortNm T)
  rv : NmsM wr (fun b => G + 1 ≤ b ∧ b < wr.heap.size) A2 (sortNm V)
  ct : (sortNm T).length ≤ c1
  cv : (sortNm V).length ≤ c2
  st : BldK C X E.m.decls k T V
theorem RbW.push4 {w wr w7 : World} {G : Nat} {E : Env} {ia : Option Addr} {ic : Nat} {da : Option Addr} {dc : Nat} {ea : Option Addr} {ec : Nat} {C : Ty → Int} {X : Ty → Ty} {k : Nat} {A1 : Option Addr} {c1 : Nat} {A2 : Option Addr} {c2 : Nat} {A : Option Addr} {c : Nat} {T V : List Nm} {z : Nm} (h : RbW w wr G E ia ic da dc ea ec C X k A1 c1 A2 c2 T V) (hb : Below wr.heap.size wr w7)
    (hn : NmsM w7 (fun b => (G + 1 ≤ b ∧ b < wr.heap.size) ∨ (wr.heap.size ≤ b ∧ b < w7.heap.size)) A (putNm (sortNm V) z)) (hc : (putNm (sortNm V) z).length ≤ c) (hk : BldK C X E.m.decls (k + 1) T (V ++ [z])) :
    RbW w (w7.setCell ⟨G, 4, none⟩ (.slice A (putNm (sortNm V) z).length c)) G E ia ic da dc ea ec C X (k + 1) A1 c1 A c T (V ++ [z]) := by
  have s0 := h.size
  have sg := h.gl
  have s1 := hb.size
  have hsz : (w7.setCell ⟨G, 4, none⟩ (.slice A (putNm (sortNm V) z).length c)).heap.size = w7.heap.size := by simp [World.setCell]
  have hfar : ∀ b, b ≠ G → (w7.setCell ⟨G, 4, none⟩ (.slice A (putNm (sortNm V) z).length c)).heap[b]? = w7.heap[b]? := fun b hb => Below.heap_setCell _ _ _ _ hb
  have mv : ∀ {b : Nat} {C' : Array Value} {T' : TypeId}, b < G → Blk wr b C' T' → Blk (w7.setCell ⟨G, 4, none⟩ (.slice A (putNm (sortNm V) z).length c)) b C' T' := fun hbG hblk => (hfar _ (Nat.ne_of_lt hbG)).trans (hblk.under hb (by omega))
  have e : sortNm (V ++ [z]) = putNm (sortNm V) z := sortNm_push _ _
  have bo := (h.bo.under hb h.bo.lt).set 4 (.slice A (putNm (sortNm V) z).length c)
  simp only [List.set_toArray, List.set_cons_zero, List.set_cons_succ, Array.set!_eq_setIfInBounds, List.setIfInBounds_toArray] at bo
  refine ⟨(h.le.trans (hb.mono (by omega))).setCell (p := ⟨G, 4, none⟩) (by show w.heap.size ≤ G; omega) _, sg, by rw [hsz]; omega, mv (by omega) h.bm, mv (by omega) h.br, ?_, ?_, ?_, h.ct, by rw [e]; exact hc, hk⟩
  · rw [e]
    exact bo
  · refine h.rt.move (fun b hM => ⟨hM.1, by rw [hsz]; omega⟩) fun p hp => World.cell?_of_block (w := wr) ((hfar _ (by omega)).trans (hb.block _ hp.2))
  · rw [e]
    refine hn.move (fun b hM => ⟨by omega, by rw [hsz]; omega⟩) fun p hp => World.cell?_of_block (w := w7) (hfar _ (by omega))
theorem RbW.push3 {w wr w7 : World} {G : Nat} {E : Env} {ia : Option Addr} {ic : Nat} {da : Option Addr} {dc : Nat} {ea : Option Addr} {ec : Nat} {C : Ty → Int} {X : Ty → Ty} {k : Nat} {A1 : Option Addr} {c1 : Nat} {A2 : Option Addr} {c2 : Nat} {A : Option Addr} {c : Nat} {T V : List Nm} {z : Nm} (h : RbW w wr G E ia ic da dc ea ec C X k A1 c1 A2 c2 T V) (hb : Below wr.heap.size wr w7)
    (hn : NmsM w7 (fun b => (G + 1 ≤ b ∧ b < wr.heap.size) ∨ (wr.heap.size ≤ b ∧ b < w7.heap.size)) A (putNm (sortNm T) z)) (hc : (putNm (sortNm T) z).length ≤ c) (hk : BldK C X E.m.decls (k + 1) (T ++ [z]) V) :
    RbW w (w7.setCell ⟨G, 3, none⟩ (.slice A (putNm (sortNm T) z).length c)) G E ia ic da dc ea ec C X (k + 1) A c A2 c2 (T ++ [z]) V := by
  have s0 := h.size
  have sg := h.gl
  have s1 := hb.size
  have hsz : (w7.setCell ⟨G, 3, none⟩ (.slice A (putNm (sortNm T) z).length c)).heap.size = w7.heap.size := by simp [World.setCell]
  have hfar : ∀ b, b ≠ G → (w7.setCell ⟨G, 3, none⟩ (.slice A (putNm (sortNm T) z).length c)).heap[b]? = w7.heap[b]? := fun b hb => Below.heap_setCell _ _ _ _ hb
  have mv : ∀ {b : Nat} {C' : Array Value} {T' : TypeId}, b < G → Blk wr b C' T' → Blk (w7.setCell ⟨G, 3, none⟩ (.slice A (putNm (sortNm T) z).length c)) b C' T' := fun hbG hblk => (hfar _ (Nat.ne_of_lt hbG)).trans (hblk.under hb (by omega))
  have e : sortNm (T ++ [z]) = putNm (sortNm T) z := sortNm_push _ _
  have bo := (h.bo.under hb h.bo.lt).set 3 (.slice A (putNm (sortNm T) z).length c)
  simp only [List.set_toArray, List.set_cons_zero, List.set_cons_succ, Array.set!_eq_setIfInBounds, List.setIfInBounds_toArray] at bo
  refine ⟨(h.le.trans (hb.mono (by omega))).setCell (p := ⟨G, 3, none⟩) (by show w.heap.size ≤ G; omega) _, sg, by rw [hsz]; omega, mv (by omega) h.bm, mv (by omega) h.br, ?_, ?_, ?_, by rw [e]; exact hc, h.cv, hk⟩
  · rw [e]
    exact bo
  · rw [e]
    refine hn.move (fun b hM => ⟨by omega, by rw [hsz]; omega⟩) fun p hp => World.cell?_of_block (w := w7) (hfar _ (by omega))
  · refine h.rv.move (fun b hM => ⟨hM.1, by rw [hsz]; omega⟩) fun p hp => World.cell?_of_block (w := wr) ((hfar _ (by omega)).trans (hb.block _ hp.2))
theorem manyT_loc (s : ByteArray) : manyT (locT s) ≤ 1000000000 := by rw [locT, manyT, manyL]; decide
theorem locT_c' (w : World) (B : Nat) (s : ByteArray) (h : s.size ≤ maxLen) : TyC w B (locT s) (tyCells (locT s) none 0 none 0) :=
  .mk (locT s) none 0 none 0 (fun _ => #[]) ⟨by simp [locT, Ty.kind], by simp [locT, Ty.major], Nat.zero_le _, Nat.zero_le _, h, Nat.zero_le _, (fun s hs => by cases hs), Nat.zero_le _⟩ (.inl rfl) (.inl rfl) (Nat.le_refl _) (Nat.le_refl _) (fun i hi => absurd hi (by simp [locT, Ty.subs]))
theorem len_sortNm (l : List Nm) : (sortNm l).length = l.length := (sortNm_perm l).length_eq
set_option maxRecDepth 100000 in
set_option maxHeartbeats 40000000 in
theorem rb_bad (E : Env) (ia : Option Addr) (ic : Nat) (da : Option Addr) (dc : Nat) (ea : Option Addr) (ec : Nat) (B : Nat) (w : World) (hE : RbC w B E ia ic da dc ea ec) (hB : B ≤ w.heap.size) {p : Int × Option Nat} (hp : checkF E.m = some p) :
    Calls Tryz.prog 39 #[.agg (mdlCells E.m ia ic da dc), .string E.pkg, .int .i64 E.major, .slice ea E.env.length ec] w (RbRet w (p.1, p.2, zIfq)) := by
  have hck := fun W' (hb : Below w.heap.size w W') => rCheck_c E.m ia ic da dc B W' (hE.rx.mdl.under (hb.mono hB)) (Nat.le_trans hB hb.size) hE.hm
  obtain ⟨c1, p1, hcp⟩ : ∃ c p, numE (checkF E.m) = (c, p) := ⟨_, _, rfl⟩
  rw [hcp] at hck
  simp only [mdlCells] at hck ⊢
  have HCK := Lib.hid hck
  have HE := Lib.hid hE
  have hpk := hE.pk
  have hne := hE.ne
  have hmj1 := hE.j1
  have hmj2 := hE.j2
  clear hck hE
  have HNP := Lib.hid (show (c1, p1) = numE (errB (p.1, p.2, zIfq)) by rw [← hcp, hp, errB, if_neg (check_ne hp)])
  have hc0 : ¬ c1 = 0 := by
    have h := check_ne hp
    rw [hp] at hcp
    obtain ⟨c, q⟩ := p
    cases q <;> (injection hcp with h1 h2; rw [← h1]; exact h)
  have hc0b : (c1 == 0) = false := by simpa using hc0
  clear hcp hp
  go_enter Tryz.func39, Tryz.ntmps39
  go_upto_region 1 with fail
  obtain ⟨W, hWq, d0, d1, hz, hb⟩ := twoEX w #[.string E.m.name, .slice ia E.m.imps.length ic, .slice da E.m.decls.length dc] #[.string { data := #[] }, .int .i64 0, .string { data := #[] }, .slice none 0 0, .slice none 0 0] 25 51
  rewrite [← hWq]; clear hWq
  have BC := Lib.hid hb
  have D0 := Lib.hid d0
  have D1 := Lib.hid d1
  clear hb d0 d1 hz
  obtain ⟨m0, m1, m2⟩ := cellsT3 D0.out
  have ml := D0.out.lt
  obtain ⟨e0, e1, e2, e3, e4⟩ := cellsT5 D1.out
  have el := D1.out.lt
  go_upto_region 2 with (go_at_call 16; refine (HCK.out _ BC.out).mono ?_; rintro e wn ⟨rfl, hb⟩; have D0 := Lib.hid (D0.out.under hb D0.out.lt); have D1 := Lib.hid (D1.out.under hb D1.out.lt); have BC := Lib.hid (BC.out.trans (hb.mono BC.out.size)); clear hb; clear m0 m1 m2 e0 e1 e2 e3 e4 ml el; obtain ⟨m0, m1, m2⟩ := cellsT3 D0.out; have ml := D0.out.lt; obtain ⟨e0, e1, e2, e3, e4⟩ := cellsT5 D1.out; have el := D1.out.lt)
  have f0 := D1.out.free 0
  have f1 := D1.out.free 1
  have f2 := D1.out.free 2
  have f3 := D1.out.free 3
  have f4 := D1.out.free 4
  go_wp2_with fail
  obtain ⟨Wz, hWq, hp, hbp, hfz⟩ := sf5 (.string { data := #[] }) (.int .i64 0) (.string { data := #[] }) (.slice none 0 0) (.slice none 0 0) D1.out BC.out (Nat.le_succ _)
  rewrite [← hWq]; clear hWq
  obtain ⟨r0, r1, r2, r3, r4⟩ := cellsT5 hp
  refine bodyPost_ret (by simp [results, Tryz.results39, go_sem, r0, r1, r2, r3, r4]; try rfl) rfl ?_
  exact ⟨_, _, _, rfl, zIfx_c _ _, HNP.out, hbp⟩
set_option maxRecDepth 100000 in
set_option maxHeartbeats 40000000 in
theorem rb_arg (E : Env) (ia : Option Addr) (ic : Nat) (da : Option Addr) (dc : Nat) (ea : Option Addr) (ec : Nat) (B : Nat) (w : World) (hE : RbC w B E ia ic da dc ea ec) (hB : B ≤ w.heap.size) (hc : checkF E.m = none) (ho : okE E = false) :
    Calls Tryz.prog 39 #[.agg (mdlCells E.m ia ic da dc), .string E.pkg, .int .i64 E.major, .slice ea E.env.length ec] w (RbRet w (1, none, zIfq)) := by
  have hck := fun W' (hb : Below w.heap.size w W') => rCheck_c E.m ia ic da dc B W' (hE.rx.mdl.under (hb.mono hB)) (Nat.le_trans hB hb.size) hE.hm
  obtain ⟨c1, p1, hcp⟩ : ∃ c p, numE (checkF E.m) = (c, p) := ⟨_, _, rfl⟩
  rw [hcp] at hck
  simp only [mdlCells] at hck ⊢
  have HCK := Lib.hid hck
  have HE := Lib.hid hE
  have hpk := hE.pk
  have hne := hE.ne
  have hmj1 := hE.j1
  have hmj2 := hE.j2
  clear hck hE
  rw [hc] at hcp
  obtain ⟨rfl, rfl⟩ : 0 = c1 ∧ -1 = p1 := by injection hcp with h1 h2; exact ⟨h1, h2⟩
  clear hcp
  have hsm := fun W' => rSmall_c E.pkg W' hpk
  obtain ⟨qs, hqs⟩ : ∃ q, smallB E.pkg = q := ⟨_, rfl⟩
  simp only [hqs] at hsm
  have HSM := Lib.hid hsm
  have HQS := Lib.hid hqs
  have HO := Lib.hid ho
  clear hsm hqs hc ho hpk
  go_enter Tryz.func39, Tryz.ntmps39
  go_upto_region 1 with fail
  obtain ⟨W, hWq, d0, d1, hz, hb⟩ := twoEX w #[.string E.m.name, .slice ia E.m.imps.length ic, .slice da E.m.decls.length dc] #[.string { data := #[] }, .int .i64 0, .string { data := #[] }, .slice none 0 0, .slice none 0 0] 25 51
  rewrite [← hWq]; clear hWq
  have BC := Lib.hid hb
  have D0 := Lib.hid d0
  have D1 := Lib.hid d1
  clear hb d0 d1 hz
  obtain ⟨m0, m1, m2⟩ := cellsT3 D0.out
  have ml := D0.out.lt
  obtain ⟨e0, e1, e2, e3, e4⟩ := cellsT5 D1.out
  have el := D1.out.lt
  go_upto_region 2 with (go_at_call 16; refine (HCK.out _ BC.out).mono ?_; rintro e wn ⟨rfl, hb⟩; have D0 := Lib.hid (D0.out.under hb D0.out.lt); have D1 := Lib.hid (D1.out.under hb D1.out.lt); have BC := Lib.hid (BC.out.trans (hb.mono BC.out.size)); clear hb; clear m0 m1 m2 e0 e1 e2 e3 e4 ml el; obtain ⟨m0, m1, m2⟩ := cellsT3 D0.out; have ml := D0.out.lt; obtain ⟨e0, e1, e2, e3, e4⟩ := cellsT5 D1.out; have el := D1.out.lt)
  go_upto_region 5 with (go_at_call 56; refine (HSM.out _).mono ?_; rintro e wn ⟨rfl, hb⟩; have D0 := Lib.hid (D0.out.under hb D0.out.lt); have D1 := Lib.hid (D1.out.under hb D1.out.lt); have BC := Lib.hid (BC.out.trans (hb.mono BC.out.size)); clear hb; clear m0 m1 m2 e0 e1 e2 e3 e4 ml el; obtain ⟨m0, m1, m2⟩ := cellsT3 D0.out; have ml := D0.out.lt; obtain ⟨e0, e1, e2, e3, e4⟩ := cellsT5 D1.out; have el := D1.out.lt)
  cases qs
  · have f0 := D1.out.free 0
    have f1 := D1.out.free 1
    have f2 := D1.out.free 2
    have f3 := D1.out.free 3
    have f4 := D1.out.free 4
    go_wp2_with fail
    obtain ⟨Wz, hWq, hp, hbp, hfz⟩ := sf5 (.string { data := #[] }) (.int .i64 0) (.string { data := #[] }) (.slice none 0 0) (.slice none 0 0) D1.out BC.out (Nat.le_succ _)
    rewrite [← hWq]; clear hWq
    obtain ⟨r0, r1, r2, r3, r4⟩ := cellsT5 hp
    refine bodyPost_ret (by simp [results, Tryz.results39, go_sem, r0, r1, r2, r3, r4]; try rfl) rfl ?_
    exact ⟨_, _, _, rfl, zIfx_c _ _, rfl, hbp⟩
  by_cases h1 : E.major < 1
  · have f0 := D1.out.free 0
    have f1 := D1.out.free 1
    have f2 := D1.out.free 2
    have f3 := D1.out.free 3
    have f4 := D1.out.free 4
    go_wp2_with fail
    obtain ⟨Wz, hWq, hp, hbp, hfz⟩ := sf5 (.string { data := #[] }) (.int .i64 0) (.string { data := #[] }) (.slice none 0 0) (.slice none 0 0) D1.out BC.out (Nat.le_succ _)
    rewrite [← hWq]; clear hWq
    obtain ⟨r0, r1, r2, r3, r4⟩ := cellsT5 hp
    refine bodyPost_ret (by simp [results, Tryz.results39, go_sem, r0, r1, r2, r3, r4]; try rfl) rfl ?_
    exact ⟨_, _, _, rfl, zIfx_c _ _, rfl, hbp⟩
  by_cases h2 : 999999999 < E.major
  · have f0 := D1.out.free 0
    have f1 := D1.out.free 1
    have f2 := D1.out.free 2
    have f3 := D1.out.free 3
    have f4 := D1.out.free 4
    go_wp2_with fail
    obtain ⟨Wz, hWq, hp, hbp, hfz⟩ := sf5 (.string { data := #[] }) (.int .i64 0) (.string { data := #[] }) (.slice none 0 0) (.slice none 0 0) D1.out BC.out (Nat.le_succ _)
    rewrite [← hWq]; clear hWq
    obtain ⟨r0, r1, r2, r3, r4⟩ := cellsT5 hp
    refine bodyPost_ret (by simp [results, Tryz.results39, go_sem, r0, r1, r2, r3, r4]; try rfl) rfl ?_
    exact ⟨_, _, _, rfl, zIfx_c _ _, rfl, hbp⟩
  by_cases h3 : 100 < (E.env.length : Int)
  · have f0 := D1.out.free 0
    have f1 := D1.out.free 1
    have f2 := D1.out.free 2
    have f3 := D1.out.free 3
    have f4 := D1.out.free 4
    go_wp2_with fail
    obtain ⟨Wz, hWq, hp, hbp, hfz⟩ := sf5 (.string { data := #[] }) (.int .i64 0) (.string { data := #[] }) (.slice none 0 0) (.slice none 0 0) D1.out BC.out (Nat.le_succ _)
    rewrite [← hWq]; clear hWq
    obtain ⟨r0, r1, r2, r3, r4⟩ := cellsT5 hp
    refine bodyPost_ret (by simp [results, Tryz.results39, go_sem, r0, r1, r2, r3, r4]; try rfl) rfl ?_
    exact ⟨_, _, _, rfl, zIfx_c _ _, rfl, hbp⟩
  · exfalso
    have := HO.out
    rw [okE, HQS.out, decide_eq_true (show 1 ≤ E.major by omega), decide_eq_true (show E.major ≤ 999999999 by omega), decide_eq_true (show E.env.length ≤ 100 by omega)] at this
    cases this
theorem rb_ret {w wr Wz : World} {B G : Nat} {E : Env} {ia : Option Addr} {ic : Nat} {da : Option Addr} {dc : Nat} {ea : Option Addr} {ec : Nat} {ic' dc' ec' : Nat} {ia' da' ea' : Option Addr} {C : Ty → Int} {X : Ty → Ty} {A1 : Option Addr} {c1 : Nat} {A2 : Option Addr} {c2 : Nat} {T V : List Nm} (hE : RbC w B E ia' ic' da' dc' ea' ec') (h : RbW w wr G E ia ic da dc ea ec C X E.m.decls.length A1 c1 A2 c2 T V) (hc : checkF E.m = none) (ho : okE E = true)
    (hf : Fr (· = w.heap.size + 1) wr Wz) (hb : Below w.heap.size w Wz) :
    RbRet w (bldF E C X) (.returned (.tuple #[.agg #[.string E.pkg, .int .i64 E.major, .string E.m.name, .slice A1 (sortNm T).length c1, .slice A2 (sortNm V).length c2], .int .i64 0, .int .i64 (-1)])) Wz := by
  rw [h.st.done hc ho]
  have hl := h.st.lenT
  have hd := (mayM_iff.1 (check_none.1 hc).1).2.2.1
  have sg := h.gl
  have mv : ∀ {A l}, NmsM wr (fun b => G + 1 ≤ b ∧ b < wr.heap.size) A l → NmsAt Wz Wz.heap.size A l := fun hn => (hn.move (M' := fun b => b < Wz.heap.size) (fun b hM => Nat.lt_of_lt_of_le hM.2 hf.size) fun p hp => hf.cell hp.2 (fun e => by have e : p.block = w.heap.size + 1 := e; have := hp.1; omega)).at fun b hb => hb
  exact ⟨_, _, _, rfl, ⟨⟨hE.pk, hE.rx.mdl.name, ⟨hE.j1, hE.j2⟩, by show (sortNm _).length ≤ _; rw [len_sortNm]; unfold maxLen; omega, by show (sortNm _).length ≤ _; rw [len_sortNm]; unfold maxLen; omega⟩, A1, c1, A2, c2, rfl, mv h.rt, mv h.rv, h.ct, h.cv⟩, rfl, hb⟩
set_option maxRecDepth 100000 in
set_option maxHeartbeats 40000000 in
theorem rb_go (E : Env) (ia : Option Addr) (ic : Nat) (da : Option Addr) (dc : Nat) (ea : Option Addr) (ec : Nat) (B : Nat) (w : World) (C : Ty → Int) (X : Ty → Ty) (hE : RbC w B E ia ic da dc ea ec) (hB : B ≤ w.heap.size) (hT : Tells E C X) (hc : checkF E.m = none) (ho : okE E = true) :
    Calls Tryz.prog 39 #[.agg (mdlCells E.m ia ic da dc), .string E.pkg, .int .i64 E.major, .slice ea E.env.length ec] w (RbRet w (bldF E C X)) := by
  have hck := fun W' (hb : Below w.heap.size w W') => rCheck_c E.m ia ic da dc B W' (hE.rx.mdl.under (hb.mono hB)) (Nat.le_trans hB hb.size) hE.hm
  obtain ⟨c1, p1, hcp⟩ : ∃ c p, numE (checkF E.m) = (c, p) := ⟨_, _, rfl⟩
  rw [hcp] at hck
  simp only [mdlCells] at hck ⊢
  have HCK := Lib.hid hck
  have HE := Lib.hid hE
  have hpk := hE.pk
  have hne := hE.ne
  have hmj1 := hE.j1
  have hmj2 := hE.j2
  clear hck hE
  have HC := Lib.hid hc
  rw [hc] at hcp
  obtain ⟨rfl, rfl⟩ : 0 = c1 ∧ -1 = p1 := by injection hcp with h1 h2; exact ⟨h1, h2⟩
  clear hcp
  have hsm := fun W' => rSmall_c E.pkg W' hpk
  have ho2 := ho
  simp only [okE, Bool.and_eq_true, decide_eq_true_eq] at ho2
  obtain ⟨hs1, hg1, hg2, hg3⟩ := ho2
  simp only [hs1] at hsm
  have HSM := Lib.hid hsm
  have HO := Lib.hid ho
  have HT := Lib.hid hT
  have hd60 := (mayM_iff.1 (check_none.1 hc).1).2.2.1
  have h1 : ¬ E.major < 1 := by omega
  have h2 : ¬ 999999999 < E.major := by omega
  have h3 : ¬ 100 < (E.env.length : Int) := by omega
  clear hsm hs1 hc ho hT hpk
  go_enter Tryz.func39, Tryz.ntmps39
  go_upto_region 1 with fail
  obtain ⟨W, hWq, d0, d1, hz, hb⟩ := twoEX w #[.string E.m.name, .slice ia E.m.imps.length ic, .slice da E.m.decls.length dc] #[.string { data := #[] }, .int .i64 0, .string { data := #[] }, .slice none 0 0, .slice none 0 0] 25 51
  rewrite [← hWq]; clear hWq
  have BC := Lib.hid hb
  have D0 := Lib.hid d0
  have D1 := Lib.hid d1
  clear hb d0 d1 hz
  obtain ⟨m0, m1, m2⟩ := cellsT3 D0.out
  have ml := D0.out.lt
  obtain ⟨e0, e1, e2, e3, e4⟩ := cellsT5 D1.out
  have el := D1.out.lt
  go_upto_region 2 with (go_at_call 16; refine (HCK.out _ BC.out).mono ?_; rintro e Wa ⟨rfl, hb⟩; have D0 := Lib.hid (D0.out.under hb D0.out.lt); have D1 := Lib.hid (D1.out.under hb D1.out.lt); have BC := Lib.hid (BC.out.trans (hb.mono BC.out.size)); clear hb; clear m0 m1 m2 e0 e1 e2 e3 e4 ml el; obtain ⟨m0, m1, m2⟩ := cellsT3 D0.out; have ml := D0.out.lt; obtain ⟨e0, e1, e2, e3, e4⟩ := cellsT5 D1.out; have el := D1.out.lt)
  go_upto_region 5 with (go_at_call 56; refine (HSM.out _).mono ?_; rintro e Wc ⟨rfl, hb⟩; have D0 := Lib.hid (D0.out.under hb D0.out.lt); have D1 := Lib.hid (D1.out.under hb D1.out.lt); have BC := Lib.hid (BC.out.trans (hb.mono BC.out.size)); clear hb; clear m0 m1 m2 e0 e1 e2 e3 e4 ml el; obtain ⟨m0, m1, m2⟩ := cellsT3 D0.out; have ml := D0.out.lt; obtain ⟨e0, e1, e2, e3, e4⟩ := cellsT5 D1.out; have el := D1.out.lt)
  go_upto_region 8 with fail
  have HGL := Lib.hid (show w.heap.size + 2 ≤ Wc.heap.size from el)
  clear m0 m1 m2 e0 e1 e2 e3 e4 ml el
  obtain ⟨Ws, hWq, bN, hb, hzN⟩ := laidNX Wc #[.string E.pkg, .int .i64 E.major, .string E.m.name, .slice none 0 0, .slice none 0 0] 51
  rewrite [← hWq]; clear hWq
  have D0 := Lib.hid (D0.out.under hb D0.out.lt)
  have D1 := Lib.hid (D1.out.under hb D1.out.lt)
  have BC := Lib.hid (BC.out.trans (hb.mono BC.out.size))
  have D2 := Lib.hid bN
  clear bN hb hzN
  obtain ⟨m0, m1, m2⟩ := cellsT3 D0.out
  have ml := D0.out.lt
  obtain ⟨e0, e1, e2, e3, e4⟩ := cellsT5 D1.out
  have el := D1.out.lt
  obtain ⟨o0, o1, o2, o3, o4⟩ := cellsT5 D2.out
  have ol := D2.out.lt
  have HW0 := Lib.hid (show RbW w Ws Wc.heap.size E ia ic da dc ea ec C X 0 none 0 none 0 [] [] from ⟨BC.out, HGL.out, ol, D0.out, D1.out, D2.out, NmsM.nil _ _ _, NmsM.nil _ _ _, Nat.le_refl _, Nat.le_refl _, BldK.zero C X E.m.decls⟩)
  clear e0 e1 e2 e3 e4 el o0 o1 o2 o3 o4 ol m0 m1 m2 ml h1 h2 h3 hg1 hg2 hg3
  go_wp2_with fail
  go_loopw [15] (fun iv wr => ∃ (k : Nat) (A1 : Option Addr) (c1 : Nat) (A2 : Option Addr) (c2 : Nat) (T V : List Nm), k ≤ E.m.decls.length ∧ iv = .int .i64 k ∧ RbW w wr Wc.heap.size E ia ic da dc ea ec C X k A1 c1 A2 c2 T V) (fun iv _ => E.m.decls.length - (intOf iv).toNat)
  case atStart => exact ⟨0, _, _, _, _, _, _, Nat.zero_le _, rfl, HW0.out⟩
  case round =>
    rename World => wr
    obtain ⟨k, A1, c1, A2, c2, T, V, hk, rfl, hr⟩ := hrel
    have HR := Lib.hid hr
    clear hr
    by_cases hlt : k < E.m.decls.length
    · obtain ⟨d, hd⟩ : ∃ d, E.m.decls[k] = d := ⟨_, rfl⟩
      obtain ⟨hfd, bd, od, na4, nc4, sa4, sc4, hda, hbd, htd, g0, g1, g2, g3, g4, g5, g6, g7, g8⟩ := (HE.out.rx.mdl.under (HR.out.le.mono hB)).decls.elem hlt hd
      obtain rfl := hda
      have hsz := HR.out.size
      have hgl := HR.out.gl
      have lb : bd < wr.heap.size := by omega
      have hnd : E.m.decls.length ≤ 1000000 := by omega
      have hkI : (k : Int) < (E.m.decls.length : Int) := by omega
      have hk0 : (0 : Int) ≤ (k : Int) := by omega
      have HMD := Lib.hid (show d ∈ E.m.decls from hd ▸ List.getElem_mem hlt)
      have HD := Lib.hid hd
      have HTD := Lib.hid htd
      have HFD := Lib.hid hfd
      have D0 := Lib.hid HR.out.bm
      have D1 := Lib.hid HR.out.br
      have D2 := Lib.hid HR.out.bo
      have BC := Lib.hid HR.out.le
      have BW := Lib.hid (Below.refl wr.heap.size wr)
      obtain ⟨m0, m1, m2⟩ := cellsT3 D0.out
      have ml := D0.out.lt
      clear hd htd hfd hbd
      go_upto_region 12 with fail
      clear g0 g1 g2 g3 g4 g5 g6 g7 g8 lb
      clear m0 m1 m2 ml
      obtain ⟨W1, hWq, bN, hb, hzN⟩ := laidNX wr #[.int .i64 d.kind, .string d.name, .int .i64 d.ty.kind, .string d.ty.pkg, .int .i64 d.ty.major, .string d.ty.mod, .string d.ty.name, .slice na4 d.ty.names.length nc4, .slice sa4 d.ty.subs.length sc4] 45
      rewrite [← hWq]; clear hWq
      have D0 := Lib.hid (D0.out.under hb D0.out.lt)
      have D1 := Lib.hid (D1.out.under hb D1.out.lt)
      have D2 := Lib.hid (D2.out.under hb D2.out.lt)
      have HTD := Lib.hid (HTD.out.under (hb.mono (Nat.le_trans hB BC.out.size)))
      have BW := Lib.hid (BW.out.trans (hb.mono BW.out.size))
      have BC := Lib.hid (BC.out.trans (hb.mono BC.out.size))
      have D3 := Lib.hid bN
      clear bN hb hzN
      obtain ⟨m0, m1, m2⟩ := cellsT3 D0.out
      have ml := D0.out.lt
      obtain ⟨e0, e1, e2, e3, e4⟩ := cellsT5 D1.out
      have el := D1.out.lt
      obtain ⟨o0, o1, o2, o3, o4⟩ := cellsT5 D2.out
      have ol := D2.out.lt
      obtain ⟨d0, d1, d2, d3, d4, d5, d6, d7, d8⟩ := cellsT9 D3.out
      have dl := D3.out.lt
      have hW1 := D3.out.lt
      by_cases h2 : d.kind = 2
      · have hb2 : (d.kind == 2) = true := by simp [h2]
        have HNX := Lib.hid (show RbW w W1 Wc.heap.size E ia ic (some ⟨bd, od, none⟩) dc ea ec C X (k + 1) A1 c1 A2 c2 T V from ⟨BC.out, hgl, Nat.le_trans hsz BW.out.size, D0.out, D1.out, D2.out, HR.out.rt.move (fun b hM => ⟨hM.1, Nat.lt_of_lt_of_le hM.2 BW.out.size⟩) (fun p hp => BW.out.cell hp.2), HR.out.rv.move (fun b hM => ⟨hM.1, Nat.lt_of_lt_of_le hM.2 BW.out.size⟩) (fun p hp => BW.out.cell hp.2), HR.out.ct, HR.out.cv, HR.out.st.hid hlt HD.out h2⟩)
        clear h2
        go_wp2_with fail
        first
          | exact ⟨⟨k + 1, _, _, _, _, _, _, by omega, by go_num, HNX.out⟩, by simp [intOf]; omega⟩
          | (go_roundw
             case rel => exact ⟨k + 1, _, _, _, _, _, _, by omega, by go_num, HNX.out⟩
             case measure => simp [intOf]; omega)
      have hb2 : (d.kind == 2) = false := by simp [h2]
      have H2 := Lib.hid h2
      clear h2
      go_upto_region 14 with fail
      clear m0 m1 m2 e0 e1 e2 e3 e4 o0 o1 o2 o3 o4 d0 d1 d2 d3 d4 d5 d6 d7 d8 ml el ol dl
      obtain ⟨W2, hWq, bN, hb, hzN⟩ := laidNX W1 #[.int .i64 d.ty.kind, .string d.ty.pkg, .int .i64 d.ty.major, .string d.ty.mod, .string d.ty.name, .slice na4 d.ty.names.length nc4, .slice sa4 d.ty.subs.length sc4] 29
      rewrite [← hWq]; clear hWq
      have D0 := Lib.hid (D0.out.under hb D0.out.lt)
      have D1 := Lib.hid (D1.out.under hb D1.out.lt)
      have D2 := Lib.hid (D2.out.under hb D2.out.lt)
      have D3 := Lib.hid (D3.out.under hb D3.out.lt)
      have HTD := Lib.hid (HTD.out.under (hb.mono (Nat.le_trans hB BC.out.size)))
      have BW := Lib.hid (BW.out.trans (hb.mono BW.out.size))
      have BC := Lib.hid (BC.out.trans (hb.mono BC.out.size))
      have D4 := Lib.hid bN
      clear bN hb hzN
      obtain ⟨m0, m1, m2⟩ := cellsT3 D0.out
      have ml := D0.out.lt
      obtain ⟨e0, e1, e2, e3, e4⟩ := cellsT5 D1.out
      have el := D1.out.lt
      obtain ⟨o0, o1, o2, o3, o4⟩ := cellsT5 D2.out
      have ol := D2.out.lt
      obtain ⟨d0, d1, d2, d3, d4, d5, d6, d7, d8⟩ := cellsT9 D3.out
      have dl := D3.out.lt
      obtain ⟨y0, y1, y2, y3, y4, y5, y6⟩ := cellsT7 D4.out
      have yl := D4.out.lt
      go_upto_if 72 with fail
      go_cut [] (fun wx => ∃ nb mb sb ob, Blk wx W1.heap.size (tyCells (srcT d) nb mb sb ob) 29 ∧ TyC wx B (srcT d) (tyCells (srcT d) nb mb sb ob) ∧ Fr (· = W1.heap.size) W2 wx)
      case first =>
        by_cases h1 : d.kind = 1
        · have hb1 : (d.kind == 1) = true := by simp [h1]
          have hs : srcT d = locT d.name := if_pos h1
          have HSR := Lib.hid hs
          clear h1 hs
          have f0 := D4.out.free 0
          have f1 := D4.out.free 1
          have f2 := D4.out.free 2
          have f3 := D4.out.free 3
          have f4 := D4.out.free 4
          have f5 := D4.out.free 5
          have f6 := D4.out.free 6
          go_wp2_with fail
          go_meet
          have hp := pf7 (.int .i64 8) (.string { data := #[] }) (.int .i64 0) (.string { data := #[] }) (.string d.name) (.slice none 0 0) (.slice none 0 0) D4.out
          have hfz := fr7 W2 (g := W1.heap.size) (.int .i64 8) (.string { data := #[] }) (.int .i64 0) (.string { data := #[] }) (.string d.name) (.slice none 0 0) (.slice none 0 0)
          rw [HSR.out]
          exact ⟨none, 0, none, 0, hp, locT_c' _ B d.name HFD.out.name, hfz⟩
        · have hb1 : (d.kind == 1) = false := by simp [h1]
          have hs : srcT d = d.ty := if_neg h1
          have HSR := Lib.hid hs
          clear h1 hs
          go_wp2_with fail
          go_meet
          rw [HSR.out]
          exact ⟨na4, nc4, sa4, sc4, D4.out, HTD.out, ⟨rfl, rfl, rfl, Nat.le_refl _, fun _ _ _ => rfl⟩⟩
      case rest =>
        rename World => wx
        obtain ⟨nb, mb, sb, ob, hb4, htx, hf⟩ := hcut
        clear m0 m1 m2 e0 e1 e2 e3 e4 o0 o1 o2 o3 o4 d0 d1 d2 d3 d4 d5 d6 d7 d8 y0 y1 y2 y3 y4 y5 y6 ml el ol dl yl
        have hW2 := D4.out.lt
        have D0 := Lib.hid (D0.out.fr hf (fun e => by have e : w.heap.size = W1.heap.size := e; omega))
        have D1 := Lib.hid (D1.out.fr hf (fun e => by have e : w.heap.size + 1 = W1.heap.size := e; omega))
        have D2 := Lib.hid (D2.out.fr hf (fun e => by have e : Wc.heap.size = W1.heap.size := e; omega))
        have D3 := Lib.hid (D3.out.fr hf (fun e => by have e : wr.heap.size = W1.heap.size := e; omega))
        have hfb : Below wr.heap.size W2 wx := hf.below (fun b e => by have e : b = W1.heap.size := e; omega) (by omega)
        have BC := Lib.hid (BC.out.trans (hfb.mono (show w.heap.size ≤ wr.heap.size by omega)))
        have BW := Lib.hid (BW.out.trans hfb)
        have D4 := Lib.hid hb4
        have HTX := Lib.hid htx
        have hsx : Wc.heap.size + 1 ≤ wx.heap.size := Nat.le_trans hsz BW.out.size
        have hmt : manyT (srcT d) ≤ 1000000000 := by
          rw [srcT]
          split
          · exact manyT_loc _
          · exact HE.out.hm d HMD.out
        clear hf hfb hb4 htx hW2
        have hex := refAll_c E ia ic (some ⟨bd, od, none⟩) dc ea ec B (srcT d) _ wx (HE.out.rx.under (BC.out.mono hB)) HTX.out (Nat.le_trans hB BC.out.size) HE.out.pk HE.out.j1 HE.out.j2 hmt HE.out.hm HE.out.ne
        have h4 := D4.out
        simp only [mdlCells, tyCells] at hex h4
        have HEX := Lib.hid hex
        have D4 := Lib.hid h4
        clear hex h4 hmt
        obtain ⟨m0, m1, m2⟩ := cellsT3 D0.out
        have ml := D0.out.lt
        obtain ⟨e0, e1, e2, e3, e4⟩ := cellsT5 D1.out
        have el := D1.out.lt
        obtain ⟨o0, o1, o2, o3, o4⟩ := cellsT5 D2.out
        have ol := D2.out.lt
        obtain ⟨d0, d1, d2, d3, d4, d5, d6, d7, d8⟩ := cellsT9 D3.out
        have dl := D3.out.lt
        obtain ⟨y0, y1, y2, y3, y4, y5, y6⟩ := cellsT7 D4.out
        have yl := D4.out.lt
        go_upto_region 17 with (go_at_call 33; refine (HEX.out).mono ?_; rintro e wn ⟨c, y, cs6, rfl, hxi, hty, hb⟩; obtain ⟨na6, nc6, sa6, sc6, f6, rfl, -⟩ := hty.inv; simp only [tyCells]; have HTY := Lib.hid hty; have HXI := Lib.hid (hxi.uniq (HT.out (srcT d))); have BW := Lib.hid (BW.out.trans (hb.mono BW.out.size)); have HWX := Lib.hid hb.size; clear hxi hty; have D0 := Lib.hid (D0.out.under hb D0.out.lt); have D1 := Lib.hid (D1.out.under hb D1.out.lt); have D2 := Lib.hid (D2.out.under hb D2.out.lt); have D3 := Lib.hid (D3.out.under hb D3.out.lt); have D4 := Lib.hid (D4.out.under hb D4.out.lt); have BC := Lib.hid (BC.out.trans (hb.mono BC.out.size)); clear hb; clear m0 m1 m2 e0 e1 e2 e3 e4 o0 o1 o2 o3 o4 d0 d1 d2 d3 d4 d5 d6 d7 d8 y0 y1 y2 y3 y4 y5 y6 ml el ol dl yl; obtain ⟨m0, m1, m2⟩ := cellsT3 D0.out; have ml := D0.out.lt; obtain ⟨e0, e1, e2, e3, e4⟩ := cellsT5 D1.out; have el := D1.out.lt; obtain ⟨o0, o1, o2, o3, o4⟩ := cellsT5 D2.out; have ol := D2.out.lt; obtain ⟨d0, d1, d2, d3, d4, d5, d6, d7, d8⟩ := cellsT9 D3.out; have dl := D3.out.lt; obtain ⟨y0, y1, y2, y3, y4, y5, y6⟩ := cellsT7 D4.out; have yl := D4.out.lt)
        clear m0 m1 m2 e0 e1 e2 e3 e4 o0 o1 o2 o3 o4 d0 d1 d2 d3 d4 d5 d6 d7 d8 y0 y1 y2 y3 y4 y5 y6 ml el ol dl yl
        obtain ⟨W5, hWq, bN, hb, hzN⟩ := laidNX wn #[.int .i64 y.kind, .string y.pkg, .int .i64 y.major, .string y.mod, .string y.name, .slice na6 y.names.length nc6, .slice sa6 y.subs.length sc6] 29
        rewrite [← hWq]; clear hWq
        have D0 := Lib.hid (D0.out.under hb D0.out.lt)
        have D1 := Lib.hid (D1.out.under hb D1.out.lt)
        have D2 := Lib.hid (D2.out.under hb D2.out.lt)
        have D3 := Lib.hid (D3.out.under hb D3.out.lt)
        have HTY := Lib.hid (show TyM W5 (fun b => wx.heap.size ≤ b ∧ b < W5.heap.size) y _ from HTY.out.move (fun b hb' => ⟨hb'.1, Nat.lt_of_lt_of_le hb'.2 hb.size⟩) fun p hp => hb.cell hp.2)
        have BW := Lib.hid (BW.out.trans (hb.mono BW.out.size))
        have BC := Lib.hid (BC.out.trans (hb.mono BC.out.size))
        have D5 := Lib.hid bN
        clear bN hb hzN
        obtain ⟨m0, m1, m2⟩ := cellsT3 D0.out
        have ml := D0.out.lt
        obtain ⟨e0, e1, e2, e3, e4⟩ := cellsT5 D1.out
        have el := D1.out.lt
        obtain ⟨o0, o1, o2, o3, o4⟩ := cellsT5 D2.out
        have ol := D2.out.lt
        obtain ⟨d0, d1, d2, d3, d4, d5, d6, d7, d8⟩ := cellsT9 D3.out
        have dl := D3.out.lt
        obtain ⟨x0, x1, x2, x3, x4, x5, x6⟩ := cellsT7 D5.out
        have xl := D5.out.lt
        have HWR := Lib.hid (show RbW w W5 Wc.heap.size E ia ic (some ⟨bd, od, none⟩) dc ea ec C X k A1 c1 A2 c2 T V from ⟨BC.out, hgl, Nat.le_trans hsz BW.out.size, D0.out, D1.out, D2.out, HR.out.rt.move (fun b hM => ⟨hM.1, Nat.lt_of_lt_of_le hM.2 BW.out.size⟩) (fun p hp => BW.out.cell hp.2), HR.out.rv.move (fun b hM => ⟨hM.1, Nat.lt_of_lt_of_le hM.2 BW.out.size⟩) (fun p hp => BW.out.cell hp.2), HR.out.ct, HR.out.cv, HR.out.st⟩)
        have hlen := HR.out.st.lenT
        by_cases h0 : c = 0
        · subst h0
          by_cases h4 : d.kind = 4
          · have hb4 : (d.kind == 4) = true := by simp [h4]
            have HH4 := Lib.hid (show BldK C X E.m.decls (k + 1) T (V ++ [⟨d.name, y⟩]) by have := HR.out.st.val hlt HD.out h4 HXI.out.1.symm; rw [nmOf, ← HXI.out.2] at this; exact this)
            have hpc := put_c (sortNm V) A2 c2 (fun b => Wc.heap.size + 1 ≤ b ∧ b < W5.heap.size) ⟨d.name, y⟩ #[.string d.name, .int .i64 y.kind, .string y.pkg, .int .i64 y.major, .string y.mod, .string y.name, .slice na6 y.names.length nc6, .slice sa6 y.subs.length sc6] W5 HWR.out.rv ⟨HFD.out.name, na6, nc6, sa6, sc6, rfl, HTY.out.mono fun b hb => ⟨Nat.le_trans hsx hb.1, hb.2⟩⟩ (fun b hb => hb.2) (by rw [len_sortNm]; omega) HWR.out.cv
            have HPC := Lib.hid hpc
            clear hpc h4
            have f4 := D2.out.free 4
            go_wp2_with (go_at_call 83; refine HPC.out.mono ?_; rintro e w7 ⟨A', cap', rfl, hcp, hnm, hb⟩; have HNX := Lib.hid (RbW.push4 (z := ⟨d.name, y⟩) HWR.out hb hnm hcp HH4.out); have B2 := D2.out.under hb D2.out.lt; clear m0 m1 m2 e0 e1 e2 e3 e4 o0 o1 o2 o3 o4 d0 d1 d2 d3 d4 d5 d6 d7 d8 x0 x1 x2 x3 x4 x5 x6 ml el ol dl xl f4; have f4 := B2.free 4; have ol := B2.lt; have o4 := B2.cell 4; simp at o4; clear B2 hb hnm hcp)
            first
              | exact ⟨⟨k + 1, _, _, _, _, _, _, by omega, by go_num, HNX.out⟩, by simp [intOf]; omega⟩
              | (go_roundw
                 case rel => exact ⟨k + 1, _, _, _, _, _, _, by omega, by go_num, HNX.out⟩
                 case measure => simp [intOf]; omega)
          · have hb4 : (d.kind == 4) = false := by simp [h4]
            have HH4 := Lib.hid (show BldK C X E.m.decls (k + 1) (T ++ [⟨d.name, y⟩]) V by have := HR.out.st.typ hlt HD.out H2.out h4 HXI.out.1.symm; rw [nmOf, ← HXI.out.2] at this; exact this)
            have hpc := put_c (sortNm T) A1 c1 (fun b => Wc.heap.size + 1 ≤ b ∧ b < W5.heap.size) ⟨d.name, y⟩ #[.string d.name, .int .i64 y.kind, .string y.pkg, .int .i64 y.major, .string y.mod, .string y.name, .slice na6 y.names.length nc6, .slice sa6 y.subs.length sc6] W5 HWR.out.rt ⟨HFD.out.name, na6, nc6, sa6, sc6, rfl, HTY.out.mono fun b hb => ⟨Nat.le_trans hsx hb.1, hb.2⟩⟩ (fun b hb => hb.2) (by rw [len_sortNm]; omega) HWR.out.ct
            have HPC := Lib.hid hpc
            clear hpc h4
            have f3 := D2.out.free 3
            go_wp2_with (go_at_call 83; refine HPC.out.mono ?_; rintro e w7 ⟨A', cap', rfl, hcp, hnm, hb⟩; have HNX := Lib.hid (RbW.push3 (z := ⟨d.name, y⟩) HWR.out hb hnm hcp HH4.out); have B2 := D2.out.under hb D2.out.lt; clear m0 m1 m2 e0 e1 e2 e3 e4 o0 o1 o2 o3 o4 d0 d1 d2 d3 d4 d5 d6 d7 d8 x0 x1 x2 x3 x4 x5 x6 ml el ol dl xl f3; have f3 := B2.free 3; have ol := B2.lt; have o3 := B2.cell 3; simp at o3; clear B2 hb hnm hcp)
            first
              | exact ⟨⟨k + 1, _, _, _, _, _, _, by omega, by go_num, HNX.out⟩, by simp [intOf]; omega⟩
              | (go_roundw
                 case rel => exact ⟨k + 1, _, _, _, _, _, _, by omega, by go_num, HNX.out⟩
                 case measure => simp [intOf]; omega)
        · have h0b : (c == 0) = false := by simpa using h0
          have HBAD := Lib.hid (HR.out.st.bad hlt HD.out H2.out (by rw [← HXI.out.1]; exact h0) HC.out HO.out)
          have HEB := Lib.hid (show ((c, (k : Int)) : Int × Int) = numE (errB (C (srcT d), some k, zIfq)) by rw [errB, if_neg (by show ¬ C (srcT d) = 0; rw [← HXI.out.1]; exact h0), ← HXI.out.1]; rfl)
          clear m0 m1 m2 o0 o1 o2 o3 o4 d0 d1 d2 d3 d4 d5 d6 d7 d8 x0 x1 x2 x3 x4 x5 x6 ml ol dl xl
          have f0 := D1.out.free 0
          have f1 := D1.out.free 1
          have f2 := D1.out.free 2
          have f3 := D1.out.free 3
          have f4 := D1.out.free 4
          go_wp2_with fail
          obtain ⟨Wz, hWq, hp, hbp, hfz⟩ := sf5 (.string { data := #[] }) (.int .i64 0) (.string { data := #[] }) (.slice none 0 0) (.slice none 0 0) D1.out BC.out (Nat.le_succ _)
          rewrite [← hWq]; clear hWq
          obtain ⟨r0, r1, r2, r3, r4⟩ := cellsT5 hp
          refine bodyPost_ret (by simp [results, Tryz.results39, go_sem, r0, r1, r2, r3, r4]; try rfl) rfl ?_
          rw [HBAD.out]
          exact ⟨_, _, _, rfl, zIfx_c _ _, HEB.out, hbp⟩
    · obtain rfl : k = E.m.decls.length := by omega
      have hkI : ¬ (E.m.decls.length : Int) < (E.m.decls.length : Int) := by omega
      have D0 := Lib.hid HR.out.bm
      have D1 := Lib.hid HR.out.br
      have D2 := Lib.hid HR.out.bo
      have BC := Lib.hid HR.out.le
      obtain ⟨m0, m1, m2⟩ := cellsT3 D0.out
      have ml := D0.out.lt
      obtain ⟨e0, e1, e2, e3, e4⟩ := cellsT5 D1.out
      have el := D1.out.lt
      obtain ⟨o0, o1, o2, o3, o4⟩ := cellsT5 D2.out
      have ol := D2.out.lt
      have f0 := D1.out.free 0
      have f1 := D1.out.free 1
      have f2 := D1.out.free 2
      have f3 := D1.out.free 3
      have f4 := D1.out.free 4
      go_wp2_with fail
      obtain ⟨Wz, hWq, hp, hbp, hfz⟩ := sf5 (.string E.pkg) (.int .i64 E.major) (.string E.m.name) (.slice A1 (sortNm T).length c1) (.slice A2 (sortNm V).length c2) D1.out BC.out (Nat.le_succ _)
      rewrite [← hWq]; clear hWq
      obtain ⟨r0, r1, r2, r3, r4⟩ := cellsT5 hp
      refine bodyPost_ret (by simp [results, Tryz.results39, go_sem, r0, r1, r2, r3, r4]; try rfl) rfl ?_
      exact rb_ret HE.out HR.out HC.out HO.out hfz hbp
theorem rbld_c (E : Env) (ia : Option Addr) (ic : Nat) (da : Option Addr) (dc : Nat) (ea : Option Addr) (ec : Nat) (B : Nat) (w : World) (C : Ty → Int) (X : Ty → Ty) (hE : RbC w B E ia ic da dc ea ec) (hB : B ≤ w.heap.size) (hT : Tells E C X) :
    Calls Tryz.prog 39 #[.agg (mdlCells E.m ia ic da dc), .string E.pkg, .int .i64 E.major, .slice ea E.env.length ec] w (RbRet w (bldF E C X)) := by
  cases hc : checkF E.m with
  | some p => rw [bld_amiss hc]; exact rb_bad E ia ic da dc ea ec B w hE hB hc
  | none =>
    cases ho : okE E with
    | false => rw [bld_arg hc ho]; exact rb_arg E ia ic da dc ea ec B w hE hB hc ho
    | true => exact rb_go E ia ic da dc ea ec B w C X hE hB hT hc ho
end Go.Proofs.YtjeldfipipkfiaaGreatDoor
