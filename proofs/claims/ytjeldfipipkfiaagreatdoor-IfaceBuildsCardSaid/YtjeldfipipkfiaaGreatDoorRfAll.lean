/- The contract of merlonref08.All: what the document tells of a type, or what is amiss. -/
import Derived.Test.YtjeldfipipkfiaaGreatDoorRfExB
import Derived.Test.YtjeldfipipkfiaaGreatDoorRfLak
import Derived.Test.YtjeldfipipkfiaaGreatDoorRfRch
import Derived.Test.YtjeldfipipkfiaaGreatDoorRfChk
namespace Go.Proofs.YtjeldfipipkfiaaGreatDoor
open Go.RowKit
set_option linter.unusedSimpArgs false
set_option linter.unusedVariables false
def AllRet (w : World) (E : Env) (t : Ty) (e : Ending) (w' : World) : Prop := ∃ c y cs', e = .returned (.tuple #[.agg cs', .int .i64 c]) ∧ ExpIs E t c y ∧ TyM w' (Fresh w w') y cs' ∧ Below w.heap.size w w'
theorem check_codes {m : Mdl} {p : Int × Option Nat} (hp : checkF m = some p) : p.1 ≠ 0 := by
  intro h0
  rw [checkF] at hp
  split at hp
  · rw [Option.map_eq_some_iff] at hp
    obtain ⟨⟨c, i⟩, h1, h2⟩ := hp
    rw [← h2] at h0
    have h0 : c = 0 := h0
    subst h0
    rw [amissF] at h1
    split at h1
    · cases h1
    · obtain ⟨c, hc, hm⟩ := List.exists_of_findSome?_eq_some h1
      rw [Option.map_eq_some_iff] at hm
      obtain ⟨k, _, he⟩ := hm
      injection he with h1 h2
      subst h1
      simp [codes4] at hc
  · injection hp with hp
    rw [← hp] at h0
    cases h0
theorem numE_zero {m : Mdl} : (numE (checkF m)).1 = 0 ↔ checkF m = none := by
  cases h : checkF m with
  | none => exact ⟨fun _ => rfl, fun _ => rfl⟩
  | some p =>
    refine ⟨fun h0 => absurd ?_ (check_codes h), fun h0 => by cases h0⟩
    obtain ⟨c, q⟩ := p
    cases q <;> exact h0
structure LakK (E : Env) (t : Ty) (k : Nat) (miss : Bool) : Prop where
  yes : miss = true → complB E t = false
  no : miss = false → lackB E (localsT t) = false ∧ ∀ j (h : j < E.m.decls.length), j < k → reachF E.m.decls t j = true → E.m.decls[j].kind = 3 → lackB E (localsT E.m.decls[j].ty) = false
theorem LakK.zero (E : Env) (t : Ty) : LakK E t 0 (lackB E (localsT t)) := ⟨fun h => compl_no1 h, fun h => ⟨h, fun j _ hj => absurd hj (by omega)⟩⟩
theorem LakK.skip {E : Env} {t : Ty} {k : Nat} {d : Dcl} {r : Bool} (h : LakK E t k false) (hk : k < E.m.decls.length) (hd : E.m.decls[k] = d) (hr : reachF E.m.decls t k = r) (hs : r = false ∨ d.kind ≠ 3) : LakK E t (k + 1) false :=
  ⟨(fun h => by cases h), fun _ => ⟨(h.no rfl).1, fun j hj hjk h1 h3 => by
    by_cases e : j = k
    · subst e
      subst hd hr
      rcases hs with hs | hs
      · rw [hs] at h1; cases h1
      · exact absurd h3 hs
    · exact (h.no rfl).2 j hj (by omega) h1 h3⟩⟩
theorem LakK.step {E : Env} {t : Ty} {k : Nat} {d : Dcl} (h : LakK E t k false) (hk : k < E.m.decls.length) (hd : E.m.decls[k] = d) (hr : reachF E.m.decls t k = true) (h3 : d.kind = 3) : LakK E t (k + 1) (lackB E (localsT d.ty)) := by
  subst hd
  refine ⟨fun hl => compl_no2 hk hr h3 hl, fun hl => ⟨(h.no rfl).1, fun j hj hjk h1 h3' => ?_⟩⟩
  by_cases e : j = k
  · subst e; exact hl
  · exact (h.no rfl).2 j hj (by omega) h1 h3'
theorem LakK.done {E : Env} {t : Ty} (h : LakK E t E.m.decls.length false) : complB E t = true := compl_yes (h.no rfl).1 fun k hk => (h.no rfl).2 k hk hk
set_option maxRecDepth 100000 in
set_option maxHeartbeats 40000000 in
theorem refAll_stop (E : Env) (ia : Option Addr) (ic : Nat) (da : Option Addr) (dc : Nat) (ea : Option Addr) (ec : Nat) (B : Nat) (t : Ty) (cs : Array Value) (w : World) (hE : RxC w B E ia ic da dc ea ec) (ht : TyC w B t cs) (hB : B ≤ w.heap.size) (hpk : E.pkg.size ≤ maxLen) (hj1 : -9223372036854775808 ≤ E.major) (hj2 : E.major ≤ 9223372036854775807) (hmt : manyT t ≤ 1000000000) (hmany : ∀ d ∈ E.m.decls, manyT d.ty ≤ 1000000000) (hel : E.env.length ≤ 1000000) (ha : argB E t = false) :
    Calls Tryz.prog 33 #[.agg (mdlCells E.m ia ic da dc), .string E.pkg, .int .i64 E.major, .slice ea E.env.length ec, .agg cs] w (AllRet w E t) := by
  have HA := Lib.hid ha
  clear ha
  obtain ⟨na, nc, sa, sc, f0, rfl, -⟩ := ht.inv
  have hck := fun W' (hb : Below w.heap.size w W') => rCheck_c E.m ia ic da dc B W' (hE.mdl.under (hb.mono hB)) (Nat.le_trans hB hb.size) hmany
  have hmy := fun W' (hb : Below w.heap.size w W') => rMay_c t _ B W' (ht.under (hb.mono hB)) (Nat.le_trans hB hb.size) hmt
  have hsm := fun W' => rSmall_c E.pkg W' hpk
  obtain ⟨⟨b1, b2⟩, hbb⟩ : ∃ r, numE (checkF E.m) = r := ⟨_, rfl⟩
  have HB1 := Lib.hid (show b1 = 0 ↔ checkF E.m = none by have := numE_zero (m := E.m); rwa [hbb] at this)
  obtain ⟨qm, hqm⟩ : ∃ q, mayT t = q := ⟨_, rfl⟩
  obtain ⟨qs, hqs⟩ : ∃ q, smallB E.pkg = q := ⟨_, rfl⟩
  simp only [mdlCells, hbb] at hck
  simp only [tyCells, hqm] at hmy
  simp only [hqs] at hsm
  have HCK := Lib.hid hck
  have HMY := Lib.hid hmy
  have HSM := Lib.hid hsm
  have HE := Lib.hid hE
  have HT := Lib.hid ht
  have HQM := Lib.hid hqm
  have HQS := Lib.hid hqs
  have HMANY := Lib.hid hmany
  simp only [mdlCells, tyCells] at HT ⊢
  clear hck hmy hsm hbb hqm hqs hE ht hmany hpk
  go_enter Tryz.func33, Tryz.ntmps33
  go_upto_region 1 with fail
  obtain ⟨W, hWq, d0, d1, d2, hz, hb⟩ := threeMX w #[.string E.m.name, .slice ia E.m.imps.length ic, .slice da E.m.decls.length dc] #[.int .i64 t.kind, .string t.pkg, .int .i64 t.major, .string t.mod, .string t.name, .slice na t.names.length nc, .slice sa t.subs.length sc] #[.int .i64 0, .string { data := #[] }, .int .i64 0, .string { data := #[] }, .string { data := #[] }, .slice none 0 0, .slice none 0 0] 25 29 29
  rewrite [← hWq]; clear hWq
  have BC := Lib.hid hb
  have D0 := Lib.hid d0
  have D1 := Lib.hid d1
  have D2 := Lib.hid d2
  clear hb d0 d1 d2 hz
  obtain ⟨m0, m1, m2⟩ := cellsT3 D0.out
  have ml := D0.out.lt
  obtain ⟨k0, k1, k2, k3, k4, k5, k6⟩ := cellsT7 D1.out
  have kl := D1.out.lt
  obtain ⟨e0, e1, e2, e3, e4, e5, e6⟩ := cellsT7 D2.out
  have el := D2.out.lt
  go_upto_region 4 with (first
    | (go_at_call 16; refine (HCK.out _ BC.out).mono ?_; rintro e wn ⟨rfl, hb⟩; have D0 := Lib.hid (D0.out.under hb D0.out.lt); have D1 := Lib.hid (D1.out.under hb D1.out.lt); have D2 := Lib.hid (D2.out.under hb D2.out.lt); have BC := Lib.hid (BC.out.trans (hb.mono BC.out.size)); clear hb; clear m0 m1 m2 k0 k1 k2 k3 k4 k5 k6 e0 e1 e2 e3 e4 e5 e6 ml kl el; obtain ⟨m0, m1, m2⟩ := cellsT3 D0.out; have ml := D0.out.lt; obtain ⟨k0, k1, k2, k3, k4, k5, k6⟩ := cellsT7 D1.out; have kl := D1.out.lt; obtain ⟨e0, e1, e2, e3, e4, e5, e6⟩ := cellsT7 D2.out; have el := D2.out.lt)
    | (go_at_call 56; refine (HSM.out _).mono ?_; rintro e wn ⟨rfl, hb⟩; have D0 := Lib.hid (D0.out.under hb D0.out.lt); have D1 := Lib.hid (D1.out.under hb D1.out.lt); have D2 := Lib.hid (D2.out.under hb D2.out.lt); have BC := Lib.hid (BC.out.trans (hb.mono BC.out.size)); clear hb; clear m0 m1 m2 k0 k1 k2 k3 k4 k5 k6 e0 e1 e2 e3 e4 e5 e6 ml kl el; obtain ⟨m0, m1, m2⟩ := cellsT3 D0.out; have ml := D0.out.lt; obtain ⟨k0, k1, k2, k3, k4, k5, k6⟩ := cellsT7 D1.out; have kl := D1.out.lt; obtain ⟨e0, e1, e2, e3, e4, e5, e6⟩ := cellsT7 D2.out; have el := D2.out.lt)
    | (go_at_call 20; refine (HMY.out _ BC.out).mono ?_; rintro e wn ⟨rfl, hb⟩; have D0 := Lib.hid (D0.out.under hb D0.out.lt); have D1 := Lib.hid (D1.out.under hb D1.out.lt); have D2 := Lib.hid (D2.out.under hb D2.out.lt); have BC := Lib.hid (BC.out.trans (hb.mono BC.out.size)); clear hb; clear m0 m1 m2 k0 k1 k2 k3 k4 k5 k6 e0 e1 e2 e3 e4 e5 e6 ml kl el; obtain ⟨m0, m1, m2⟩ := cellsT3 D0.out; have ml := D0.out.lt; obtain ⟨k0, k1, k2, k3, k4, k5, k6⟩ := cellsT7 D1.out; have kl := D1.out.lt; obtain ⟨e0, e1, e2, e3, e4, e5, e6⟩ := cellsT7 D2.out; have el := D2.out.lt))
  clear m0 m1 m2 ml k0 k1 k2 k3 k4 k5 k6 kl
  by_cases h0 : b1 = 0
  · subst h0
    have hc := HB1.out.1 rfl
    cases qm
    · have f0 := D2.out.free 0
      have f1 := D2.out.free 1
      have f2 := D2.out.free 2
      have f3 := D2.out.free 3
      have f4 := D2.out.free 4
      have f5 := D2.out.free 5
      have f6 := D2.out.free 6
      go_wp2_with fail
      obtain ⟨Wz, hWq, hp, hbp⟩ := st7 (.int .i64 0) (.string { data := #[] }) (.int .i64 0) (.string { data := #[] }) (.string { data := #[] }) (.slice none 0 0) (.slice none 0 0) D2.out BC.out (show w.heap.size ≤ w.heap.size + 1 + 1 by omega)
      rewrite [← hWq]; clear hWq
      obtain ⟨r0, r1, r2, r3, r4, r5, r6⟩ := cellsT7 hp
      refine bodyPost_ret (by simp [results, Tryz.results33, go_sem, r0, r1, r2, r3, r4, r5, r6]; try rfl) rfl ?_
      exact ⟨1, zT, _, rfl, .inl ⟨HA.out, rfl, rfl⟩, zT_m _ _, hbp⟩
    cases qs
    · have f0 := D2.out.free 0
      have f1 := D2.out.free 1
      have f2 := D2.out.free 2
      have f3 := D2.out.free 3
      have f4 := D2.out.free 4
      have f5 := D2.out.free 5
      have f6 := D2.out.free 6
      go_wp2_with fail
      obtain ⟨Wz, hWq, hp, hbp⟩ := st7 (.int .i64 0) (.string { data := #[] }) (.int .i64 0) (.string { data := #[] }) (.string { data := #[] }) (.slice none 0 0) (.slice none 0 0) D2.out BC.out (show w.heap.size ≤ w.heap.size + 1 + 1 by omega)
      rewrite [← hWq]; clear hWq
      obtain ⟨r0, r1, r2, r3, r4, r5, r6⟩ := cellsT7 hp
      refine bodyPost_ret (by simp [results, Tryz.results33, go_sem, r0, r1, r2, r3, r4, r5, r6]; try rfl) rfl ?_
      exact ⟨1, zT, _, rfl, .inl ⟨HA.out, rfl, rfl⟩, zT_m _ _, hbp⟩
    by_cases h1 : E.major < 1
    · have f0 := D2.out.free 0
      have f1 := D2.out.free 1
      have f2 := D2.out.free 2
      have f3 := D2.out.free 3
      have f4 := D2.out.free 4
      have f5 := D2.out.free 5
      have f6 := D2.out.free 6
      go_wp2_with fail
      obtain ⟨Wz, hWq, hp, hbp⟩ := st7 (.int .i64 0) (.string { data := #[] }) (.int .i64 0) (.string { data := #[] }) (.string { data := #[] }) (.slice none 0 0) (.slice none 0 0) D2.out BC.out (show w.heap.size ≤ w.heap.size + 1 + 1 by omega)
      rewrite [← hWq]; clear hWq
      obtain ⟨r0, r1, r2, r3, r4, r5, r6⟩ := cellsT7 hp
      refine bodyPost_ret (by simp [results, Tryz.results33, go_sem, r0, r1, r2, r3, r4, r5, r6]; try rfl) rfl ?_
      exact ⟨1, zT, _, rfl, .inl ⟨HA.out, rfl, rfl⟩, zT_m _ _, hbp⟩
    by_cases h2 : 999999999 < E.major
    · have f0 := D2.out.free 0
      have f1 := D2.out.free 1
      have f2 := D2.out.free 2
      have f3 := D2.out.free 3
      have f4 := D2.out.free 4
      have f5 := D2.out.free 5
      have f6 := D2.out.free 6
      go_wp2_with fail
      obtain ⟨Wz, hWq, hp, hbp⟩ := st7 (.int .i64 0) (.string { data := #[] }) (.int .i64 0) (.string { data := #[] }) (.string { data := #[] }) (.slice none 0 0) (.slice none 0 0) D2.out BC.out (show w.heap.size ≤ w.heap.size + 1 + 1 by omega)
      rewrite [← hWq]; clear hWq
      obtain ⟨r0, r1, r2, r3, r4, r5, r6⟩ := cellsT7 hp
      refine bodyPost_ret (by simp [results, Tryz.results33, go_sem, r0, r1, r2, r3, r4, r5, r6]; try rfl) rfl ?_
      exact ⟨1, zT, _, rfl, .inl ⟨HA.out, rfl, rfl⟩, zT_m _ _, hbp⟩
    by_cases h3 : 100 < (E.env.length : Int)
    · have f0 := D2.out.free 0
      have f1 := D2.out.free 1
      have f2 := D2.out.free 2
      have f3 := D2.out.free 3
      have f4 := D2.out.free 4
      have f5 := D2.out.free 5
      have f6 := D2.out.free 6
      go_wp2_with fail
      obtain ⟨Wz, hWq, hp, hbp⟩ := st7 (.int .i64 0) (.string { data := #[] }) (.int .i64 0) (.string { data := #[] }) (.string { data := #[] }) (.slice none 0 0) (.slice none 0 0) D2.out BC.out (show w.heap.size ≤ w.heap.size + 1 + 1 by omega)
      rewrite [← hWq]; clear hWq
      obtain ⟨r0, r1, r2, r3, r4, r5, r6⟩ := cellsT7 hp
      refine bodyPost_ret (by simp [results, Tryz.results33, go_sem, r0, r1, r2, r3, r4, r5, r6]; try rfl) rfl ?_
      exact ⟨1, zT, _, rfl, .inl ⟨HA.out, rfl, rfl⟩, zT_m _ _, hbp⟩
    · exfalso
      have := HA.out
      rw [argB, hc, HQM.out, HQS.out, decide_eq_true (show 1 ≤ E.major by omega), decide_eq_true (show E.major ≤ 999999999 by omega), decide_eq_true (show E.env.length ≤ 100 by omega)] at this
      cases this
  · have h0b : (b1 != 0) = true := by simpa using h0
    have f0 := D2.out.free 0
    have f1 := D2.out.free 1
    have f2 := D2.out.free 2
    have f3 := D2.out.free 3
    have f4 := D2.out.free 4
    have f5 := D2.out.free 5
    have f6 := D2.out.free 6
    go_wp2_with fail
    obtain ⟨Wz, hWq, hp, hbp⟩ := st7 (.int .i64 0) (.string { data := #[] }) (.int .i64 0) (.string { data := #[] }) (.string { data := #[] }) (.slice none 0 0) (.slice none 0 0) D2.out BC.out (show w.heap.size ≤ w.heap.size + 1 + 1 by omega)
    rewrite [← hWq]; clear hWq
    obtain ⟨r0, r1, r2, r3, r4, r5, r6⟩ := cellsT7 hp
    refine bodyPost_ret (by simp [results, Tryz.results33, go_sem, r0, r1, r2, r3, r4, r5, r6]; try rfl) rfl ?_
    exact ⟨1, zT, _, rfl, .inl ⟨HA.out, rfl, rfl⟩, zT_m _ _, hbp⟩
theorem mayM_small {m : Mdl} (h : mayM m = true) : m.decls.length ≤ 60 ∧ ∀ d ∈ m.decls, manyT d.ty ≤ 1000 := ⟨(mayM_iff.1 h).2.2.1, fun d hd => dclOk_many ((mayM_iff.1 h).2.2.2.2 d hd)⟩
set_option maxRecDepth 100000 in
set_option maxHeartbeats 40000000 in
theorem refAll_go (E : Env) (ia : Option Addr) (ic : Nat) (da : Option Addr) (dc : Nat) (ea : Option Addr) (ec : Nat) (B : Nat) (t : Ty) (cs : Array Value) (w : World) (hE : RxC w B E ia ic da dc ea ec) (ht : TyC w B t cs) (hB : B ≤ w.heap.size) (hpk : E.pkg.size ≤ maxLen) (hj1 : -9223372036854775808 ≤ E.major) (hj2 : E.major ≤ 9223372036854775807) (hmt : manyT t ≤ 1000000000) (hmany : ∀ d ∈ E.m.decls, manyT d.ty ≤ 1000000000) (hel : E.env.length ≤ 1000000) (ha : argB E t = true) :
    Calls Tryz.prog 33 #[.agg (mdlCells E.m ia ic da dc), .string E.pkg, .int .i64 E.major, .slice ea E.env.length ec, .agg cs] w (AllRet w E t) := by
  obtain ⟨hck, hwell, hmm, hmay, hsmb, hg1, hg2, hg3⟩ := well_of ha
  have HA := Lib.hid ha
  have HWELL := Lib.hid hwell
  have HMM := Lib.hid hmm
  have HMAY := Lib.hid hmay
  have HSMB := Lib.hid hsmb
  have HPK := Lib.hid hpk
  have HCKN := Lib.hid hck
  clear ha hwell hmm hck
  obtain ⟨na, nc, sa, sc, f0, rfl, -⟩ := ht.inv
  have hck := fun W' (hb : Below w.heap.size w W') => rCheck_c E.m ia ic da dc B W' (hE.mdl.under (hb.mono hB)) (Nat.le_trans hB hb.size) hmany
  have hmy := fun W' (hb : Below w.heap.size w W') => rMay_c t _ B W' (ht.under (hb.mono hB)) (Nat.le_trans hB hb.size) hmt
  have hsm := fun W' => rSmall_c E.pkg W' hpk
  obtain ⟨⟨b1, b2⟩, hbb⟩ : ∃ r, numE (checkF E.m) = r := ⟨_, rfl⟩
  have HB1 := Lib.hid (show b1 = 0 ↔ checkF E.m = none by have := numE_zero (m := E.m); rwa [hbb] at this)
  obtain ⟨qm, hqm⟩ : ∃ q, mayT t = q := ⟨_, rfl⟩
  obtain ⟨qs, hqs⟩ : ∃ q, smallB E.pkg = q := ⟨_, rfl⟩
  simp only [mdlCells, hbb] at hck
  simp only [tyCells, hqm] at hmy
  simp only [hqs] at hsm
  have HCK := Lib.hid hck
  have HMY := Lib.hid hmy
  have HSM := Lib.hid hsm
  have HE := Lib.hid hE
  have HT := Lib.hid ht
  have HQM := Lib.hid hqm
  have HQS := Lib.hid hqs
  have HMANY := Lib.hid hmany
  simp only [mdlCells, tyCells] at HT ⊢
  clear hck hmy hsm hbb hqm hqs hE ht hmany hpk
  obtain rfl : b1 = 0 := HB1.out.2 HCKN.out
  obtain rfl : qm = true := HQM.out.symm.trans HMAY.out
  obtain rfl : qs = true := HQS.out.symm.trans HSMB.out
  have h1 : ¬ E.major < 1 := by omega
  have h2 : ¬ 999999999 < E.major := by omega
  have h3 : ¬ 100 < (E.env.length : Int) := by omega
  have hm500 : manyT t ≤ 500 := (may_all HMAY.out).2.1
  obtain ⟨hdl, hdm⟩ := mayM_small HMM.out
  have HDM := Lib.hid hdm
  have HG := Lib.hid (And.intro hg1 hg2)
  clear hmay hsmb hg1 hg2 hg3 hdm
  go_enter Tryz.func33, Tryz.ntmps33
  go_upto_region 1 with fail
  obtain ⟨W, hWq, d0, d1, d2, hz, hb⟩ := threeMX w #[.string E.m.name, .slice ia E.m.imps.length ic, .slice da E.m.decls.length dc] #[.int .i64 t.kind, .string t.pkg, .int .i64 t.major, .string t.mod, .string t.name, .slice na t.names.length nc, .slice sa t.subs.length sc] #[.int .i64 0, .string { data := #[] }, .int .i64 0, .string { data := #[] }, .string { data := #[] }, .slice none 0 0, .slice none 0 0] 25 29 29
  rewrite [← hWq]; clear hWq
  have BC := Lib.hid hb
  have D0 := Lib.hid d0
  have D1 := Lib.hid d1
  have D2 := Lib.hid d2
  clear hb d0 d1 d2 hz
  obtain ⟨m0, m1, m2⟩ := cellsT3 D0.out
  have ml := D0.out.lt
  obtain ⟨k0, k1, k2, k3, k4, k5, k6⟩ := cellsT7 D1.out
  have kl := D1.out.lt
  obtain ⟨e0, e1, e2, e3, e4, e5, e6⟩ := cellsT7 D2.out
  have el := D2.out.lt
  go_upto_region 4 with (first
    | (go_at_call 16; refine (HCK.out _ BC.out).mono ?_; rintro e wn ⟨rfl, hb⟩; have D0 := Lib.hid (D0.out.under hb D0.out.lt); have D1 := Lib.hid (D1.out.under hb D1.out.lt); have D2 := Lib.hid (D2.out.under hb D2.out.lt); have BC := Lib.hid (BC.out.trans (hb.mono BC.out.size)); clear hb; clear m0 m1 m2 k0 k1 k2 k3 k4 k5 k6 e0 e1 e2 e3 e4 e5 e6 ml kl el; obtain ⟨m0, m1, m2⟩ := cellsT3 D0.out; have ml := D0.out.lt; obtain ⟨k0, k1, k2, k3, k4, k5, k6⟩ := cellsT7 D1.out; have kl := D1.out.lt; obtain ⟨e0, e1, e2, e3, e4, e5, e6⟩ := cellsT7 D2.out; have el := D2.out.lt)
    | (go_at_call 56; refine (HSM.out _).mono ?_; rintro e wn ⟨rfl, hb⟩; have D0 := Lib.hid (D0.out.under hb D0.out.lt); have D1 := Lib.hid (D1.out.under hb D1.out.lt); have D2 := Lib.hid (D2.out.under hb D2.out.lt); have BC := Lib.hid (BC.out.trans (hb.mono BC.out.size)); clear hb; clear m0 m1 m2 k0 k1 k2 k3 k4 k5 k6 e0 e1 e2 e3 e4 e5 e6 ml kl el; obtain ⟨m0, m1, m2⟩ := cellsT3 D0.out; have ml := D0.out.lt; obtain ⟨k0, k1, k2, k3, k4, k5, k6⟩ := cellsT7 D1.out; have kl := D1.out.lt; obtain ⟨e0, e1, e2, e3, e4, e5, e6⟩ := cellsT7 D2.out; have el := D2.out.lt)
    | (go_at_call 20; refine (HMY.out _ BC.out).mono ?_; rintro e wn ⟨rfl, hb⟩; have D0 := Lib.hid (D0.out.under hb D0.out.lt); have D1 := Lib.hid (D1.out.under hb D1.out.lt); have D2 := Lib.hid (D2.out.under hb D2.out.lt); have BC := Lib.hid (BC.out.trans (hb.mono BC.out.size)); clear hb; clear m0 m1 m2 k0 k1 k2 k3 k4 k5 k6 e0 e1 e2 e3 e4 e5 e6 ml kl el; obtain ⟨m0, m1, m2⟩ := cellsT3 D0.out; have ml := D0.out.lt; obtain ⟨k0, k1, k2, k3, k4, k5, k6⟩ := cellsT7 D1.out; have kl := D1.out.lt; obtain ⟨e0, e1, e2, e3, e4, e5, e6⟩ := cellsT7 D2.out; have el := D2.out.lt))
  obtain ⟨L, hL⟩ : ∃ L, localsT t = L := ⟨_, rfl⟩
  obtain ⟨n, hn⟩ : ∃ n, L.length = n := ⟨_, rfl⟩
  have hnb : n ≤ 1000 := by have := locals_many t; rw [hL, hn] at this; omega
  have hlo := fun W' (hb : Below w.heap.size w W') => rLocals_c t _ B W' (HT.out.under (hb.mono hB)) (Nat.le_trans hB hb.size) (by omega)
  simp only [hL, tyCells] at hlo
  have HLO := Lib.hid hlo
  have HL := Lib.hid hL
  have HN := Lib.hid hn
  clear hlo hL hn
  go_upto_region 7 with (go_at_call 74; refine (HLO.out _ BC.out).mono ?_; rintro e wn ⟨v3, rfl, hv3, hb⟩; obtain ⟨A3, c3, g3, rfl, hr3, ht3, -⟩ := hv3.atN HN.out; have HR3 := Lib.hid hr3; have HT3 := Lib.hid ht3; have HBC3 := Lib.hid (Nat.le_trans BC.out.size hb.size); clear hv3 hr3 ht3; have D0 := Lib.hid (D0.out.under hb D0.out.lt); have D1 := Lib.hid (D1.out.under hb D1.out.lt); have D2 := Lib.hid (D2.out.under hb D2.out.lt); have BC := Lib.hid (BC.out.trans (hb.mono BC.out.size)); clear hb; clear m0 m1 m2 k0 k1 k2 k3 k4 k5 k6 e0 e1 e2 e3 e4 e5 e6 ml kl el; obtain ⟨m0, m1, m2⟩ := cellsT3 D0.out; have ml := D0.out.lt; obtain ⟨k0, k1, k2, k3, k4, k5, k6⟩ := cellsT7 D1.out; have kl := D1.out.lt; obtain ⟨e0, e1, e2, e3, e4, e5, e6⟩ := cellsT7 D2.out; have el := D2.out.lt)
  rename World => W3
  have HTA := Lib.hid (show TysAt W3 W3.heap.size A3 L from ⟨g3, by rw [HN.out]; exact HR3.out, fun i hi => (HT3.out i hi).mono (by have := HBC3.out; omega)⟩)
  clear m0 m1 m2 ml k0 k1 k2 k3 k4 k5 k6 kl e0 e1 e2 e3 e4 e5 e6 el
  go_wp2_with fail
  go_loopw [17] (fun kv wz => ∃ k : Nat, k ≤ n ∧ kv = .int .i64 k ∧ (∀ j (h : j < L.length), j < k → knownL E.m L[j] = true) ∧ Below W3.heap.size W3 wz) (fun kv _ => n - (intOf kv).toNat)
  case atStart => exact ⟨0, Nat.zero_le _, rfl, fun j _ h => absurd h (by omega), Below.refl _ _⟩
  case round =>
    rename World => wz
    obtain ⟨k, hk, rfl, hall, hbz⟩ := hrel
    have HAL := Lib.hid hall
    have BZ := Lib.hid hbz
    have HTZ := Lib.hid (HTA.out.under hbz)
    have D0 := Lib.hid (D0.out.under hbz D0.out.lt)
    have D1 := Lib.hid (D1.out.under hbz D1.out.lt)
    have D2 := Lib.hid (D2.out.under hbz D2.out.lt)
    have BC := Lib.hid (BC.out.trans (hbz.mono BC.out.size))
    have hsz : W3.heap.size ≤ wz.heap.size := hbz.size
    have HLZ := Lib.hid (show w.heap.size ≤ wz.heap.size from BC.out.size)
    clear hall hbz
    obtain ⟨m0, m1, m2⟩ := cellsT3 D0.out
    have ml := D0.out.lt
    by_cases hlt : k < n
    · obtain ⟨x, hx⟩ : ∃ x, L[k]'(by rw [HN.out]; exact hlt) = x := ⟨_, rfl⟩
      obtain ⟨b, o, nx, ncx, sx, scx, hA3, hbl, -, c0, c1, c2, c3', c4, c5, c6⟩ := HTZ.out.elem (by rw [HN.out]; exact hlt) hx
      obtain rfl := hA3
      have hkI : (k : Int) < (n : Int) := by omega
      have hk0 : (0 : Int) ≤ (k : Int) := by omega
      have lbz : b < wz.heap.size := by omega
      have HX := Lib.hid hx
      obtain ⟨kn, hkn⟩ : ∃ r, knownL E.m x = r := ⟨_, rfl⟩
      have hknc := fun W' (hb : Below wz.heap.size wz W') => rKnown_c E.m ia ic da dc B x nx ncx sx scx W' (HE.out.mdl.under ((BC.out.trans (hb.mono BC.out.size)).mono hB)) (Nat.le_trans (Nat.le_trans hB HLZ.out) hb.size) HE.out.nd
      simp only [hkn, mdlCells, tyCells] at hknc
      have HKN := Lib.hid hknc
      have HK := Lib.hid hkn
      clear hx hknc hkn
      go_upto_region 10 with fail
      go_cut [18] (fun q w4 => q = .bool kn ∧ Below wz.heap.size wz w4)
      case first =>
        refine wp_region_until [(5, fun w' => w'.cell? ⟨w.heap.size, 0, none⟩ = some (.string E.m.name) ∧ w'.cell? ⟨w.heap.size, 1, none⟩ = some (.slice ia E.m.imps.length ic) ∧ w'.cell? ⟨w.heap.size, 2, none⟩ = some (.slice da E.m.decls.length dc) ∧ w'.cell? ⟨b, o + k * 7, none⟩ = some (.int .i64 x.kind) ∧ w'.cell? ⟨b, o + k * 7 + 1, none⟩ = some (.string x.pkg) ∧ w'.cell? ⟨b, o + k * 7 + 2, none⟩ = some (.int .i64 x.major) ∧ w'.cell? ⟨b, o + k * 7 + 3, none⟩ = some (.string x.mod) ∧ w'.cell? ⟨b, o + k * 7 + 4, none⟩ = some (.string x.name) ∧ w'.cell? ⟨b, o + k * 7 + 5, none⟩ = some (.slice nx x.names.length ncx) ∧ w'.cell? ⟨b, o + k * 7 + 6, none⟩ = some (.slice sx x.subs.length scx))] (by kernel_rfl) (Until.cons (fun _ => ⟨m0, m1, m2, c0, c1, c2, c3', c4, c5, c6⟩) Until.nil) (fun hU => ?_)
        refine AnyU.loadc (i := 0) (d := 5) [5] (Si := fun w' => w'.cell? ⟨w.heap.size, 0, none⟩ = some (.string E.m.name) ∧ w'.cell? ⟨w.heap.size, 1, none⟩ = some (.slice ia E.m.imps.length ic) ∧ w'.cell? ⟨w.heap.size, 2, none⟩ = some (.slice da E.m.decls.length dc) ∧ w'.cell? ⟨b, o + k * 7, none⟩ = some (.int .i64 x.kind) ∧ w'.cell? ⟨b, o + k * 7 + 1, none⟩ = some (.string x.pkg) ∧ w'.cell? ⟨b, o + k * 7 + 2, none⟩ = some (.int .i64 x.major) ∧ w'.cell? ⟨b, o + k * 7 + 3, none⟩ = some (.string x.mod) ∧ w'.cell? ⟨b, o + k * 7 + 4, none⟩ = some (.string x.name) ∧ w'.cell? ⟨b, o + k * 7 + 5, none⟩ = some (.slice nx x.names.length ncx) ∧ w'.cell? ⟨b, o + k * 7 + 6, none⟩ = some (.slice sx x.subs.length scx)) (v := ?_) rfl (by kernel_rfl) (by kernel_rfl) (by kernel_rfl) (fun _ _ _ h => h) (by kernel_rfl) (by assumption) (by kernel_rfl) rfl (by simp) (by rfl) ?_ (fun hV => ?_)
        rotate_left 1
        · (intro wq hq; obtain ⟨u0, u1, u2, -⟩ := hq; go_simp; try with_reducible rfl)
        clear hU; have hU := hV; clear hV
        try simp only [Act.put, aput]
        refine AnyU.take (i := 1) (v := ?_) rfl (by kernel_rfl) (by kernel_rfl) (by kernel_rfl) (fun _ _ _ h => h) (by kernel_rfl) (by assumption) (by rfl) ?_ (fun hV => ?_)
        rotate_left 1
        · (intro wq; go_simp; try with_reducible rfl)
        clear hU; have hU := hV; clear hV
        try simp only [Act.put, aput]
        refine AnyU.take (i := 2) (v := ?_) rfl (by kernel_rfl) (by kernel_rfl) (by kernel_rfl) (fun _ _ _ h => h) (by kernel_rfl) (by assumption) (by rfl) ?_ (fun hV => ?_)
        rotate_left 1
        · (intro wq; go_simp; try with_reducible rfl)
        clear hU; have hU := hV; clear hV
        try simp only [Act.put, aput]
        refine AnyU.take (i := 3) (v := ?_) rfl (by kernel_rfl) (by kernel_rfl) (by kernel_rfl) (fun _ _ _ h => h) (by kernel_rfl) (by assumption) (by rfl) ?_ (fun hV => ?_)
        rotate_left 1
        · (intro wq; go_simp; try with_reducible rfl)
        clear hU; have hU := hV; clear hV
        try simp only [Act.put, aput]
        refine AnyU.loadc (i := 4) (d := 5) [5] (Si := fun w' => w'.cell? ⟨w.heap.size, 0, none⟩ = some (.string E.m.name) ∧ w'.cell? ⟨w.heap.size, 1, none⟩ = some (.slice ia E.m.imps.length ic) ∧ w'.cell? ⟨w.heap.size, 2, none⟩ = some (.slice da E.m.decls.length dc) ∧ w'.cell? ⟨b, o + k * 7, none⟩ = some (.int .i64 x.kind) ∧ w'.cell? ⟨b, o + k * 7 + 1, none⟩ = some (.string x.pkg) ∧ w'.cell? ⟨b, o + k * 7 + 2, none⟩ = some (.int .i64 x.major) ∧ w'.cell? ⟨b, o + k * 7 + 3, none⟩ = some (.string x.mod) ∧ w'.cell? ⟨b, o + k * 7 + 4, none⟩ = some (.string x.name) ∧ w'.cell? ⟨b, o + k * 7 + 5, none⟩ = some (.slice nx x.names.length ncx) ∧ w'.cell? ⟨b, o + k * 7 + 6, none⟩ = some (.slice sx x.subs.length scx)) (v := ?_) rfl (by kernel_rfl) (by kernel_rfl) (by kernel_rfl) (fun _ _ _ h => h) (by kernel_rfl) (by assumption) (by kernel_rfl) rfl (by simp) (by rfl) ?_ (fun hV => ?_)
        rotate_left 1
        · (intro wq hq; obtain ⟨-, -, -, u0, u1, u2, u3, u4, u5, u6⟩ := hq; go_simp; try with_reducible rfl)
        clear hU; have hU := hV; clear hV
        try simp only [Act.put, aput]
        refine AnyU.ready1 (i := 5) (by kernel_rfl) (AnyU.one rfl fun K hK => ?_)
        go_simp
        go_at_call 75
        refine (HKN.out _ ((Below.refl _ _).drew)).mono ?_
        rintro e w4 ⟨rfl, hb⟩
        have HB4 := Lib.hid (show Below wz.heap.size wz w4 from (Below.refl _ _).drew.trans hb)
        clear hb
        refine hK.out _ _ (Until.offT (by kernel_rfl)) (fun hV => ?_)
        clear hK K
        clear hU; have hU := hV; clear hV
        try simp only [Act.put, aput]
        refine AnyU.take (i := 6) (v := ?_) rfl (by kernel_rfl) (by kernel_rfl) (by kernel_rfl) (fun _ _ _ h => h) (by kernel_rfl) (by assumption) (by rfl) ?_ (fun hV => ?_)
        rotate_left 1
        · (intro wq; go_simp; try with_reducible rfl)
        clear hU; have hU := hV; clear hV
        try simp only [Act.put, aput]
        refine AnyU.done (by kernel_rfl) ?_
        go_wp2_with fail
        go_meet
        exact ⟨rfl, HB4.out⟩
      case rest =>
        rename World => w4
        obtain ⟨rfl, hb4⟩ := hcut
        have HB4 := Lib.hid hb4
        clear m0 m1 m2 ml c0 c1 c2 c3' c4 c5 c6
        cases kn
        · have D2 := Lib.hid (D2.out.under hb4 D2.out.lt)
          have BC := Lib.hid (BC.out.trans (hb4.mono BC.out.size))
          have HKB := Lib.hid (show knownB E t = false by rw [knownB, HL.out, List.all_eq_false]; exact ⟨x, by rw [← HX.out]; exact List.getElem_mem _, by rw [HK.out]; decide⟩)
          obtain ⟨e0, e1, e2, e3, e4, e5, e6⟩ := cellsT7 D2.out
          have el := D2.out.lt
          clear hb4
          have f0 := D2.out.free 0
          have f1 := D2.out.free 1
          have f2 := D2.out.free 2
          have f3 := D2.out.free 3
          have f4 := D2.out.free 4
          have f5 := D2.out.free 5
          have f6 := D2.out.free 6
          go_wp2_with fail
          obtain ⟨Wz, hWq, hp, hbp⟩ := st7 (.int .i64 0) (.string { data := #[] }) (.int .i64 0) (.string { data := #[] }) (.string { data := #[] }) (.slice none 0 0) (.slice none 0 0) D2.out BC.out (show w.heap.size ≤ w.heap.size + 1 + 1 by omega)
          rewrite [← hWq]; clear hWq
          obtain ⟨r0, r1, r2, r3, r4, r5, r6⟩ := cellsT7 hp
          refine bodyPost_ret (by simp [results, Tryz.results33, go_sem, r0, r1, r2, r3, r4, r5, r6]; try rfl) rfl ?_
          exact ⟨4, zT, _, rfl, .inr (.inl ⟨HA.out, HKB.out, rfl, rfl⟩), zT_m _ _, hbp⟩
        · have HF := Lib.hid (show ∀ j (h : j < L.length), j < k + 1 → knownL E.m L[j] = true from fun j hj hjk => by
            by_cases e : j = k
            · subst e; rw [HX.out]; exact HK.out
            · exact HAL.out j hj (by omega))
          clear hb4
          go_wp2_with fail
          first
            | exact ⟨⟨k + 1, by omega, by go_num, HF.out, BZ.out.trans (HB4.out.mono BZ.out.size)⟩, by simp [intOf]; omega⟩
            | (go_roundw
               case rel => exact ⟨k + 1, by omega, by go_num, HF.out, BZ.out.trans (HB4.out.mono BZ.out.size)⟩
               case measure => simp [intOf]; omega)
    · obtain rfl : k = n := by omega
      have hkI : ¬ (k : Int) < (k : Int) := by omega
      have HKB := Lib.hid (show knownB E t = true by
        rw [knownB, HL.out, List.all_eq_true]
        intro x hx
        obtain ⟨i, hi, rfl⟩ := List.getElem_of_mem hx
        exact HAL.out i hi (by rw [← HN.out]; exact hi))
      have hrc := fun W' (hb : Below w.heap.size w W') => rReach_c E.m ia ic da dc B t _ W' (HE.out.mdl.under (hb.mono hB)) (HT.out.under (hb.mono hB)) (Nat.le_trans hB hb.size) hdl (by omega) HDM.out
      simp only [mdlCells, tyCells] at hrc
      have HRC := Lib.hid hrc
      clear hrc m0 m1 m2 ml HAL
      obtain ⟨m0, m1, m2⟩ := cellsT3 D0.out
      have ml := D0.out.lt
      obtain ⟨k0, k1, k2, k3, k4, k5, k6⟩ := cellsT7 D1.out
      have kl := D1.out.lt
      obtain ⟨e0, e1, e2, e3, e4, e5, e6⟩ := cellsT7 D2.out
      have el := D2.out.lt
      go_upto_region 14 with (go_at_call 62; refine (HRC.out _ BC.out).mono ?_; rintro e W4 ⟨g, rfl, hg, hrow, hb⟩; have HRow := Lib.hid hrow; have HTZ := Lib.hid (HTZ.out.under (hb.mono hsz)); have HS4 := Lib.hid (Nat.le_trans hsz hb.size); clear hrow hg; have D0 := Lib.hid (D0.out.under hb D0.out.lt); have D1 := Lib.hid (D1.out.under hb D1.out.lt); have D2 := Lib.hid (D2.out.under hb D2.out.lt); have BC := Lib.hid (BC.out.trans (hb.mono BC.out.size)); clear hb; clear m0 m1 m2 k0 k1 k2 k3 k4 k5 k6 e0 e1 e2 e3 e4 e5 e6 ml kl el; obtain ⟨m0, m1, m2⟩ := cellsT3 D0.out; have ml := D0.out.lt; obtain ⟨k0, k1, k2, k3, k4, k5, k6⟩ := cellsT7 D1.out; have kl := D1.out.lt; obtain ⟨e0, e1, e2, e3, e4, e5, e6⟩ := cellsT7 D2.out; have el := D2.out.lt)
      have hB3 : B ≤ W3.heap.size := Nat.le_trans hB HBC3.out
      have hS4 := HS4.out
      have hlk := fun W' (hb : Below W4.heap.size W4 W') => lacks_c E ia ic da dc ea ec A3 c3 W3.heap.size L W' ((HE.out.mdl.under ((BC.out.trans (hb.mono BC.out.size)).mono hB)).mono hB3) HE.out.ni ((HE.out.env.under ((BC.out.trans (hb.mono BC.out.size)).mono hB)).mono hB3) HE.out.few (HTZ.out.under (hb.mono hS4)) (by rw [HN.out]; omega) (Nat.le_trans hS4 hb.size)
      obtain ⟨mi, hmi⟩ : ∃ r, lackB E L = r := ⟨_, rfl⟩
      simp only [mdlCells, HN.out, hmi] at hlk
      have HLK := Lib.hid hlk
      have HK0 := Lib.hid (show LakK E t 0 mi by rw [← hmi, ← HL.out]; exact LakK.zero E t)
      have hrcell : ∀ j, j < E.m.decls.length → W4.cell? ⟨g, j, none⟩ = some (.bool (reachF E.m.decls t j)) := fun j hj => by
        rw [HRow.out.cellAt j (by omega), List.getElem?_map, List.getElem?_map, List.getElem?_range hj]; rfl
      have HRL := Lib.hid hrcell
      have lg4 : g < W4.heap.size := (owns_lt2 HRow.out rfl).2
      have HLG := Lib.hid lg4
      clear hlk hmi hrcell hS4 lg4
      go_wp2_with (go_at_call 76; refine (HLK.out _ (Below.refl _ _)).mono ?_; rintro e W5 ⟨rfl, hb⟩; have HB4 := Lib.hid hb; have D0 := Lib.hid (D0.out.under hb D0.out.lt); have D1 := Lib.hid (D1.out.under hb D1.out.lt); have D2 := Lib.hid (D2.out.under hb D2.out.lt); have BC := Lib.hid (BC.out.trans (hb.mono BC.out.size)); clear hb; clear m0 m1 m2 k0 k1 k2 k3 k4 k5 k6 e0 e1 e2 e3 e4 e5 e6 ml kl el; obtain ⟨m0, m1, m2⟩ := cellsT3 D0.out; have ml := D0.out.lt; obtain ⟨k0, k1, k2, k3, k4, k5, k6⟩ := cellsT7 D1.out; have kl := D1.out.lt; obtain ⟨e0, e1, e2, e3, e4, e5, e6⟩ := cellsT7 D2.out; have el := D2.out.lt)
      clear m0 m1 m2 ml k0 k1 k2 k3 k4 k5 k6 kl e0 e1 e2 e3 e4 e5 e6 el
      go_loopw [20, 21] (fun mv iv wy => ∃ (k : Nat) (mi2 : Bool), k ≤ E.m.decls.length ∧ mv = .bool mi2 ∧ iv = .int .i64 k ∧ LakK E t k mi2 ∧ Below W5.heap.size W5 wy) (fun _ iv _ => E.m.decls.length - (intOf iv).toNat)
      case atStart => exact ⟨0, mi, Nat.zero_le _, rfl, rfl, HK0.out, Below.refl _ _⟩
      case round =>
        rename World => wy
        obtain ⟨j2, mi2, hk2, rfl, rfl, hlak, hby⟩ := hrel
        clear h1 h2 h3 hj1 hj2 hmt hel hm500 hnb hsz hB3
        have HLAK := Lib.hid hlak
        have BY := Lib.hid hby
        have HB4 := Lib.hid (HB4.out.trans (hby.mono HB4.out.size))
        have D0 := Lib.hid (D0.out.under hby D0.out.lt)
        have D1 := Lib.hid (D1.out.under hby D1.out.lt)
        have D2 := Lib.hid (D2.out.under hby D2.out.lt)
        have BC := Lib.hid (BC.out.trans (hby.mono BC.out.size))
        clear hlak hby
        cases mi2
        · by_cases hlt : j2 < E.m.decls.length
          · obtain ⟨x, hx⟩ : ∃ x, E.m.decls[j2] = x := ⟨_, rfl⟩
            obtain ⟨-, bd, od, na4, nc4, sa4, sc4, hda, hbd, htd, c0, c1, c2, c3', c4, c5, c6, c7, c8⟩ := (HE.out.mdl.under (BC.out.mono hB)).decls.elem hlt hx
            obtain rfl := hda
            have hkI : (j2 : Int) < (E.m.decls.length : Int) := by omega
            have hk0 : (0 : Int) ≤ (j2 : Int) := by omega
            have hsy : w.heap.size ≤ wy.heap.size := BC.out.size
            have lbd : bd < wy.heap.size := by omega
            obtain ⟨rk, hrk⟩ : ∃ r, reachF E.m.decls t j2 = r := ⟨_, rfl⟩
            have rc := (HB4.out.cell (p := ⟨g, j2, none⟩) HLG.out).trans (HRL.out j2 hlt)
            rw [hrk] at rc
            have lgy := Nat.lt_of_lt_of_le HLG.out HB4.out.size
            have HRK := Lib.hid hrk
            have HX := Lib.hid hx
            have HTD := Lib.hid htd
            clear hx hrk htd
            obtain ⟨m0, m1, m2⟩ := cellsT3 D0.out
            have ml := D0.out.lt
            cases rk
            · have HF := Lib.hid (HLAK.out.skip hlt HX.out HRK.out (.inl rfl))
              go_wp2_with fail
              first
                | exact ⟨⟨j2 + 1, _, by omega, rfl, by go_num, HF.out, BY.out⟩, by simp [intOf]; omega⟩
                | (go_roundw
                   case rel => exact ⟨j2 + 1, _, by omega, rfl, by go_num, HF.out, BY.out⟩
                   case measure => simp [intOf]; omega)
            · cases h3 : (x.kind == 3)
              · have HF := Lib.hid (HLAK.out.skip hlt HX.out HRK.out (.inr (by simpa using h3)))
                go_wp2_with fail
                first
                  | exact ⟨⟨j2 + 1, _, by omega, rfl, by go_num, HF.out, BY.out⟩, by simp [intOf]; omega⟩
                  | (go_roundw
                     case rel => exact ⟨j2 + 1, _, by omega, rfl, by go_num, HF.out, BY.out⟩
                     case measure => simp [intOf]; omega)
              · have HF := Lib.hid (HLAK.out.step hlt HX.out HRK.out (by simpa using h3))
                have hdm2 : manyT x.ty ≤ 1000 := HDM.out x (HX.out ▸ List.getElem_mem hlt)
                have hll : (localsT x.ty).length ≤ 1000000 := by have := locals_many x.ty; omega
                have hlo2 := fun W' (hb : Below wy.heap.size wy W') => rLocals_c x.ty _ B W' (HTD.out.under (hb.mono (Nat.le_trans hB hsy))) (Nat.le_trans (Nat.le_trans hB hsy) hb.size) (by omega)
                simp only [tyCells] at hlo2
                have HLO2 := Lib.hid hlo2
                have hlk2 := fun W' (hb : Below wy.heap.size wy W') A c (hl : TysAt W' W'.heap.size A (localsT x.ty)) => lacks_c E ia ic (some ⟨bd, od, none⟩) dc ea ec A c W'.heap.size _ W' ((HE.out.mdl.under ((BC.out.trans (hb.mono hsy)).mono hB)).mono (Nat.le_trans (Nat.le_trans hB hsy) hb.size)) HE.out.ni ((HE.out.env.under ((BC.out.trans (hb.mono hsy)).mono hB)).mono (Nat.le_trans (Nat.le_trans hB hsy) hb.size)) HE.out.few hl hll (Nat.le_refl _)
                simp only [mdlCells] at hlk2
                have HLK2 := Lib.hid hlk2
                clear hlo2 hlk2
                go_upto_region 19 with fail
                refine wp_region_until [(8, fun w' => w'.cell? ⟨w.heap.size, 2, none⟩ = some (.slice (some ⟨bd, od, none⟩) E.m.decls.length dc) ∧ w'.cell? ⟨bd, od + j2 * 9 + 2, none⟩ = some (.int .i64 x.ty.kind) ∧ w'.cell? ⟨bd, od + j2 * 9 + 3, none⟩ = some (.string x.ty.pkg) ∧ w'.cell? ⟨bd, od + j2 * 9 + 4, none⟩ = some (.int .i64 x.ty.major) ∧ w'.cell? ⟨bd, od + j2 * 9 + 5, none⟩ = some (.string x.ty.mod) ∧ w'.cell? ⟨bd, od + j2 * 9 + 6, none⟩ = some (.string x.ty.name) ∧ w'.cell? ⟨bd, od + j2 * 9 + 7, none⟩ = some (.slice na4 x.ty.names.length nc4) ∧ w'.cell? ⟨bd, od + j2 * 9 + 8, none⟩ = some (.slice sa4 x.ty.subs.length sc4)), (9, fun w' => w'.cell? ⟨w.heap.size, 0, none⟩ = some (.string E.m.name) ∧ w'.cell? ⟨w.heap.size, 1, none⟩ = some (.slice ia E.m.imps.length ic) ∧ w'.cell? ⟨w.heap.size, 2, none⟩ = some (.slice (some ⟨bd, od, none⟩) E.m.decls.length dc))] (by kernel_rfl) (Until.cons (fun _ => ⟨m2, c2, c3', c4, c5, c6, c7, c8⟩) (Until.cons (fun _ => ⟨m0, m1, m2⟩) Until.nil)) (fun hU => ?_)
                refine AnyU.loadc (i := 0) (d := 9) [9] (Si := fun w' => w'.cell? ⟨w.heap.size, 0, none⟩ = some (.string E.m.name) ∧ w'.cell? ⟨w.heap.size, 1, none⟩ = some (.slice ia E.m.imps.length ic) ∧ w'.cell? ⟨w.heap.size, 2, none⟩ = some (.slice (some ⟨bd, od, none⟩) E.m.decls.length dc)) (v := ?_) rfl (by kernel_rfl) (by kernel_rfl) (by kernel_rfl) (fun _ _ _ h => h) (by kernel_rfl) (by assumption) (by kernel_rfl) rfl (by simp) (by rfl) ?_ (fun hV => ?_)
                rotate_left 1
                · (intro wq hq; obtain ⟨u0, u1, u2⟩ := hq; go_simp; try with_reducible rfl)
                clear hU; have hU := hV; clear hV
                try simp only [Act.put, aput]
                refine AnyU.take (i := 1) (v := ?_) rfl (by kernel_rfl) (by kernel_rfl) (by kernel_rfl) (fun _ _ _ h => h) (by kernel_rfl) (by assumption) (by rfl) ?_ (fun hV => ?_)
                rotate_left 1
                · (intro wq; go_simp; try with_reducible rfl)
                clear hU; have hU := hV; clear hV
                try simp only [Act.put, aput]
                refine AnyU.take (i := 2) (v := ?_) rfl (by kernel_rfl) (by kernel_rfl) (by kernel_rfl) (fun _ _ _ h => h) (by kernel_rfl) (by assumption) (by rfl) ?_ (fun hV => ?_)
                rotate_left 1
                · (intro wq; go_simp; try with_reducible rfl)
                clear hU; have hU := hV; clear hV
                try simp only [Act.put, aput]
                refine AnyU.loadc (i := 3) (d := 8) [5, 6, 7, 8] (Si := fun w' => w'.cell? ⟨w.heap.size, 2, none⟩ = some (.slice (some ⟨bd, od, none⟩) E.m.decls.length dc) ∧ w'.cell? ⟨bd, od + j2 * 9 + 2, none⟩ = some (.int .i64 x.ty.kind) ∧ w'.cell? ⟨bd, od + j2 * 9 + 3, none⟩ = some (.string x.ty.pkg) ∧ w'.cell? ⟨bd, od + j2 * 9 + 4, none⟩ = some (.int .i64 x.ty.major) ∧ w'.cell? ⟨bd, od + j2 * 9 + 5, none⟩ = some (.string x.ty.mod) ∧ w'.cell? ⟨bd, od + j2 * 9 + 6, none⟩ = some (.string x.ty.name) ∧ w'.cell? ⟨bd, od + j2 * 9 + 7, none⟩ = some (.slice na4 x.ty.names.length nc4) ∧ w'.cell? ⟨bd, od + j2 * 9 + 8, none⟩ = some (.slice sa4 x.ty.subs.length sc4)) (v := ?_) rfl (by kernel_rfl) (by kernel_rfl) (by kernel_rfl) (fun _ _ _ h => h) (by kernel_rfl) (by assumption) (by kernel_rfl) rfl (by simp) (by rfl) ?_ (fun hV => ?_)
                rotate_left 1
                · (intro wq hq; obtain ⟨u, -⟩ := hq; go_simp; try with_reducible rfl)
                clear hU; have hU := hV; clear hV
                try simp only [Act.put, aput]
                refine AnyU.take (i := 4) (v := ?_) rfl (by kernel_rfl) (by kernel_rfl) (by kernel_rfl) (fun _ _ _ h => h) (by kernel_rfl) (by assumption) (by rfl) ?_ (fun hV => ?_)
                rotate_left 1
                · (intro wq; go_simp; try with_reducible rfl)
                clear hU; have hU := hV; clear hV
                try simp only [Act.put, aput]
                refine AnyU.take (i := 5) (v := ?_) rfl (by kernel_rfl) (by kernel_rfl) (by kernel_rfl) (fun _ _ _ h => h) (by kernel_rfl) (by assumption) (by rfl) ?_ (fun hV => ?_)
                rotate_left 1
                · (intro wq; go_simp; try with_reducible rfl)
                clear hU; have hU := hV; clear hV
                try simp only [Act.put, aput]
                refine AnyU.take (i := 6) (v := ?_) rfl (by kernel_rfl) (by kernel_rfl) (by kernel_rfl) (fun _ _ _ h => h) (by kernel_rfl) (by assumption) (by rfl) ?_ (fun hV => ?_)
                rotate_left 1
                · (intro wq; go_simp; try with_reducible rfl)
                clear hU; have hU := hV; clear hV
                try simp only [Act.put, aput]
                refine AnyU.loadc (i := 7) (d := 8) [8] (Si := fun w' => w'.cell? ⟨w.heap.size, 2, none⟩ = some (.slice (some ⟨bd, od, none⟩) E.m.decls.length dc) ∧ w'.cell? ⟨bd, od + j2 * 9 + 2, none⟩ = some (.int .i64 x.ty.kind) ∧ w'.cell? ⟨bd, od + j2 * 9 + 3, none⟩ = some (.string x.ty.pkg) ∧ w'.cell? ⟨bd, od + j2 * 9 + 4, none⟩ = some (.int .i64 x.ty.major) ∧ w'.cell? ⟨bd, od + j2 * 9 + 5, none⟩ = some (.string x.ty.mod) ∧ w'.cell? ⟨bd, od + j2 * 9 + 6, none⟩ = some (.string x.ty.name) ∧ w'.cell? ⟨bd, od + j2 * 9 + 7, none⟩ = some (.slice na4 x.ty.names.length nc4) ∧ w'.cell? ⟨bd, od + j2 * 9 + 8, none⟩ = some (.slice sa4 x.ty.subs.length sc4)) (v := ?_) rfl (by kernel_rfl) (by kernel_rfl) (by kernel_rfl) (fun _ _ _ h => h) (by kernel_rfl) (by assumption) (by kernel_rfl) rfl (by simp) (by rfl) ?_ (fun hV => ?_)
                rotate_left 1
                · (intro wq hq; obtain ⟨-, u0, u1, u2, u3, u4, u5, u6⟩ := hq; go_simp; try with_reducible rfl)
                clear hU; have hU := hV; clear hV
                try simp only [Act.put, aput]
                refine AnyU.ready1 (i := 8) (by kernel_rfl) (AnyU.one rfl fun K hK => ?_)
                go_simp
                go_at_call 74
                refine (HLO2.out _ (Below.refl _ _).drew).mono ?_
                rintro e w5 ⟨v5, rfl, hv5, hb⟩
                have hb5 : Below wy.heap.size wy w5 := (Below.refl _ _).drew.trans hb
                obtain ⟨A5, c5', f5, rfl, -, hr5, ht5, -⟩ := hv5.at
                have ha5 : TysAt w5 w5.heap.size A5 (localsT x.ty) := ⟨f5, hr5, fun i hi => (ht5 i hi).mono (Nat.le_trans (Nat.le_trans hB hsy) hb5.size)⟩
                have HA5 := Lib.hid ha5
                have HB5 := Lib.hid hb5
                have m0 := (hb5.cell (p := ⟨w.heap.size, 0, none⟩) ml).trans m0
                have m1 := (hb5.cell (p := ⟨w.heap.size, 1, none⟩) ml).trans m1
                have m2 := (hb5.cell (p := ⟨w.heap.size, 2, none⟩) ml).trans m2
                clear hb hv5 hr5 ht5 ha5 hb5
                refine hK.out _ _ (Until.cons (fun h => absurd h (by decide)) (Until.cons (fun _ => ⟨m0, m1, m2⟩) Until.nil)) (fun hV => ?_)
                clear hK K hU
                have hU := hV
                clear hV
                try simp only [Act.put, aput]
                refine AnyU.ready1 (i := 9) (by kernel_rfl) (AnyU.one rfl fun K hK => ?_)
                go_simp
                go_at_call 76
                refine (HLK2.out _ HB5.out A5 c5' HA5.out).mono ?_
                rintro e w6 ⟨rfl, hb⟩
                have HB6 := Lib.hid (HB5.out.trans (hb.mono HB5.out.size))
                clear hb m0 m1 m2 ml c0 c1 c2 c3' c4 c5 c6 c7 c8 rc
                refine hK.out _ _ (Until.offT (by kernel_rfl)) (fun hV => ?_)
                clear hK K hU
                have hU := hV
                clear hV
                try simp only [Act.put, aput]
                refine AnyU.take (i := 10) (v := ?_) rfl (by kernel_rfl) (by kernel_rfl) (by kernel_rfl) (fun _ _ _ h => h) (by kernel_rfl) (by assumption) (by rfl) ?_ (fun hV => ?_)
                rotate_left 1
                · (intro wq; go_simp; try with_reducible rfl)
                clear hU; have hU := hV; clear hV
                try simp only [Act.put, aput]
                refine AnyU.done (by kernel_rfl) ?_
                clear hU
                go_wp2_with fail
                first
                  | exact ⟨⟨j2 + 1, _, by omega, rfl, by go_num, HF.out, BY.out.trans (HB6.out.mono BY.out.size)⟩, by simp [intOf]; omega⟩
                  | (go_roundw
                     case rel => exact ⟨j2 + 1, _, by omega, rfl, by go_num, HF.out, BY.out.trans (HB6.out.mono BY.out.size)⟩
                     case measure => simp [intOf]; omega)
          · obtain rfl : j2 = E.m.decls.length := by omega
            have hkI : ¬ (E.m.decls.length : Int) < (E.m.decls.length : Int) := by omega
            have hcm := HLAK.out.done
            obtain ⟨x, hexp⟩ := exp_of HA.out HKB.out hcm
            have HCM := Lib.hid hcm
            have HEXP := Lib.hid hexp
            have hrex := fun W' (hb : Below w.heap.size w W') => rex_c (mayM_iff.1 HMM.out).2.2.2.2 HSMB.out HG.out.1 HG.out.2 (mayM_iff.1 HMM.out).1 HPK.out hexp (may_all HMAY.out).1 B ia ic da dc ea ec 500 32 _ W' (HE.out.under (hb.mono hB)) (HT.out.under (hb.mono hB)) (Nat.le_trans hB hb.size) (by decide) (by decide) (by decide) (by decide)
            simp only [mdlCells, tyCells] at hrex
            have HREX := Lib.hid hrex
            clear hcm hexp hrex
            obtain ⟨m0, m1, m2⟩ := cellsT3 D0.out
            have ml := D0.out.lt
            obtain ⟨k0, k1, k2, k3, k4, k5, k6⟩ := cellsT7 D1.out
            have kl := D1.out.lt
            obtain ⟨e0, e1, e2, e3, e4, e5, e6⟩ := cellsT7 D2.out
            have el := D2.out.lt
            go_upto_region 23 with (go_at_call 77; refine (HREX.out _ BC.out).mono ?_; rintro e wn ⟨cs6, y, n6, rfl, hpo, hty, hb⟩; obtain ⟨na6, nc6, sa6, sc6, f6, rfl, -⟩ := hty.inv; simp only [tyCells]; have HTY := Lib.hid hty; have HPO := Lib.hid hpo; have HSW := Lib.hid (show w.heap.size + 1 + 1 < wy.heap.size from el); clear hty hpo; have D0 := Lib.hid (D0.out.under hb D0.out.lt); have D1 := Lib.hid (D1.out.under hb D1.out.lt); have D2 := Lib.hid (D2.out.under hb D2.out.lt); have BC := Lib.hid (BC.out.trans (hb.mono BC.out.size)); clear hb; clear m0 m1 m2 k0 k1 k2 k3 k4 k5 k6 e0 e1 e2 e3 e4 e5 e6 ml kl el; obtain ⟨m0, m1, m2⟩ := cellsT3 D0.out; have ml := D0.out.lt; obtain ⟨k0, k1, k2, k3, k4, k5, k6⟩ := cellsT7 D1.out; have kl := D1.out.lt; obtain ⟨e0, e1, e2, e3, e4, e5, e6⟩ := cellsT7 D2.out; have el := D2.out.lt)
            clear m0 m1 m2 k0 k1 k2 k3 k4 k5 k6 e0 e1 e2 e3 e4 e5 e6 ml kl el
            obtain ⟨W6, hWq, bN, hb, hzN⟩ := laidNX wn #[.int .i64 y.kind, .string y.pkg, .int .i64 y.major, .string y.mod, .string y.name, .slice na6 y.names.length nc6, .slice sa6 y.subs.length sc6] 29
            rewrite [← hWq]; clear hWq
            have D0 := Lib.hid (D0.out.under hb D0.out.lt)
            have D1 := Lib.hid (D1.out.under hb D1.out.lt)
            have D2 := Lib.hid (D2.out.under hb D2.out.lt)
            have HTY := Lib.hid (rx_fin2 HTY.out (Nat.le_refl _) hb)
            have BC := Lib.hid (BC.out.trans (hb.mono BC.out.size))
            have D3 := Lib.hid bN
            clear bN hb hzN
            obtain ⟨m0, m1, m2⟩ := cellsT3 D0.out
            have ml := D0.out.lt
            obtain ⟨k0, k1, k2, k3, k4, k5, k6⟩ := cellsT7 D1.out
            have kl := D1.out.lt
            obtain ⟨e0, e1, e2, e3, e4, e5, e6⟩ := cellsT7 D2.out
            have el := D2.out.lt
            obtain ⟨q0, q1, q2, q3, q4, q5, q6⟩ := cellsT7 D3.out
            have ql := D3.out.lt
            rcases HPO.out with ⟨hfit, rfl, rfl⟩ | ⟨hnf, rfl, rfl⟩
            · have hmp := many_pos y
              have hne : ¬ manyT y = 0 := by omega
              have hneb : (manyT y == 0) = false := by simp [hne]
              have HFIT := Lib.hid hfit
              have f0 := D2.out.free 0
              have f1 := D2.out.free 1
              have f2 := D2.out.free 2
              have f3 := D2.out.free 3
              have f4 := D2.out.free 4
              have f5 := D2.out.free 5
              have f6 := D2.out.free 6
              clear hfit hmp m0 m1 m2 ml k0 k1 k2 k3 k4 k5 k6 kl
              go_wp2_with fail
              have hp := pf7 (.int .i64 y.kind) (.string y.pkg) (.int .i64 y.major) (.string y.mod) (.string y.name) (.slice na6 y.names.length nc6) (.slice sa6 y.subs.length sc6) D2.out
              have hbp := pb7 (.int .i64 y.kind) (.string y.pkg) (.int .i64 y.major) (.string y.mod) (.string y.name) (.slice na6 y.names.length nc6) (.slice sa6 y.subs.length sc6) BC.out (show w.heap.size ≤ w.heap.size + 1 + 1 by omega)
              have hcc := fun (p : Addr) (hp : p.block ≠ w.heap.size + 1 + 1) => pc7 (w := W6) (.int .i64 y.kind) (.string y.pkg) (.int .i64 y.major) (.string y.mod) (.string y.name) (.slice na6 y.names.length nc6) (.slice sa6 y.subs.length sc6) hp
              have hsz := ps7 W6 (g := w.heap.size + 1 + 1) (.int .i64 y.kind) (.string y.pkg) (.int .i64 y.major) (.string y.mod) (.string y.name) (.slice na6 y.names.length nc6) (.slice sa6 y.subs.length sc6)
              generalize (((((((W6.setCell ⟨w.heap.size + 1 + 1, 0, none⟩ (.int .i64 y.kind)).setCell ⟨w.heap.size + 1 + 1, 1, none⟩ (.string y.pkg)).setCell ⟨w.heap.size + 1 + 1, 2, none⟩ (.int .i64 y.major)).setCell ⟨w.heap.size + 1 + 1, 3, none⟩ (.string y.mod)).setCell ⟨w.heap.size + 1 + 1, 4, none⟩ (.string y.name)).setCell ⟨w.heap.size + 1 + 1, 5, none⟩ (.slice na6 y.names.length nc6)).setCell ⟨w.heap.size + 1 + 1, 6, none⟩ (.slice sa6 y.subs.length sc6)) = Wz at hp hbp hcc hsz ⊢
              obtain ⟨r0, r1, r2, r3, r4, r5, r6⟩ := cellsT7 hp
              refine bodyPost_ret (by simp [results, Tryz.results33, go_sem, r0, r1, r2, r3, r4, r5, r6]; try rfl) rfl ?_
              have hsw := HSW.out
              exact ⟨0, y, _, rfl, .inr (.inr (.inr ⟨HA.out, HKB.out, HCM.out, y, HEXP.out, .inl ⟨HFIT.out, rfl, rfl⟩⟩)), rx_fin HTY.out hsw (by omega) hsz hcc, hbp⟩
            · have HNF := Lib.hid hnf
              clear hnf m0 m1 m2 ml k0 k1 k2 k3 k4 k5 k6 kl
              have f0 := D2.out.free 0
              have f1 := D2.out.free 1
              have f2 := D2.out.free 2
              have f3 := D2.out.free 3
              have f4 := D2.out.free 4
              have f5 := D2.out.free 5
              have f6 := D2.out.free 6
              go_wp2_with fail
              obtain ⟨Wz, hWq, hp, hbp⟩ := st7 (.int .i64 0) (.string { data := #[] }) (.int .i64 0) (.string { data := #[] }) (.string { data := #[] }) (.slice none 0 0) (.slice none 0 0) D2.out BC.out (show w.heap.size ≤ w.heap.size + 1 + 1 by omega)
              rewrite [← hWq]; clear hWq
              obtain ⟨r0, r1, r2, r3, r4, r5, r6⟩ := cellsT7 hp
              refine bodyPost_ret (by simp [results, Tryz.results33, go_sem, r0, r1, r2, r3, r4, r5, r6]; try rfl) rfl ?_
              exact ⟨3, zT, _, rfl, .inr (.inr (.inr ⟨HA.out, HKB.out, HCM.out, x, HEXP.out, .inr ⟨HNF.out, rfl, rfl⟩⟩)), zT_m _ _, hbp⟩
        · have HCM := Lib.hid (HLAK.out.yes rfl)
          have hkk : (j2 : Int) < (E.m.decls.length : Int) ∨ ¬ (j2 : Int) < (E.m.decls.length : Int) := by omega
          obtain ⟨e0, e1, e2, e3, e4, e5, e6⟩ := cellsT7 D2.out
          have el := D2.out.lt
          clear hk2
          rcases hkk with hkI | hkI
          · have f0 := D2.out.free 0
            have f1 := D2.out.free 1
            have f2 := D2.out.free 2
            have f3 := D2.out.free 3
            have f4 := D2.out.free 4
            have f5 := D2.out.free 5
            have f6 := D2.out.free 6
            go_wp2_with fail
            obtain ⟨Wz, hWq, hp, hbp⟩ := st7 (.int .i64 0) (.string { data := #[] }) (.int .i64 0) (.string { data := #[] }) (.string { data := #[] }) (.slice none 0 0) (.slice none 0 0) D2.out BC.out (show w.heap.size ≤ w.heap.size + 1 + 1 by omega)
            rewrite [← hWq]; clear hWq
            obtain ⟨r0, r1, r2, r3, r4, r5, r6⟩ := cellsT7 hp
            refine bodyPost_ret (by simp [results, Tryz.results33, go_sem, r0, r1, r2, r3, r4, r5, r6]; try rfl) rfl ?_
            exact ⟨9, zT, _, rfl, .inr (.inr (.inl ⟨HA.out, HKB.out, HCM.out, rfl, rfl⟩)), zT_m _ _, hbp⟩
          · have f0 := D2.out.free 0
            have f1 := D2.out.free 1
            have f2 := D2.out.free 2
            have f3 := D2.out.free 3
            have f4 := D2.out.free 4
            have f5 := D2.out.free 5
            have f6 := D2.out.free 6
            go_wp2_with fail
            obtain ⟨Wz, hWq, hp, hbp⟩ := st7 (.int .i64 0) (.string { data := #[] }) (.int .i64 0) (.string { data := #[] }) (.string { data := #[] }) (.slice none 0 0) (.slice none 0 0) D2.out BC.out (show w.heap.size ≤ w.heap.size + 1 + 1 by omega)
            rewrite [← hWq]; clear hWq
            obtain ⟨r0, r1, r2, r3, r4, r5, r6⟩ := cellsT7 hp
            refine bodyPost_ret (by simp [results, Tryz.results33, go_sem, r0, r1, r2, r3, r4, r5, r6]; try rfl) rfl ?_
            exact ⟨9, zT, _, rfl, .inr (.inr (.inl ⟨HA.out, HKB.out, HCM.out, rfl, rfl⟩)), zT_m _ _, hbp⟩
theorem refAll_c (E : Env) (ia : Option Addr) (ic : Nat) (da : Option Addr) (dc : Nat) (ea : Option Addr) (ec : Nat) (B : Nat) (t : Ty) (cs : Array Value) (w : World) (hE : RxC w B E ia ic da dc ea ec) (ht : TyC w B t cs) (hB : B ≤ w.heap.size) (hpk : E.pkg.size ≤ maxLen) (hj1 : -9223372036854775808 ≤ E.major) (hj2 : E.major ≤ 9223372036854775807) (hmt : manyT t ≤ 1000000000) (hmany : ∀ d ∈ E.m.decls, manyT d.ty ≤ 1000000000) (hel : E.env.length ≤ 1000000) :
    Calls Tryz.prog 33 #[.agg (mdlCells E.m ia ic da dc), .string E.pkg, .int .i64 E.major, .slice ea E.env.length ec, .agg cs] w (AllRet w E t) := by
  cases ha : argB E t
  · exact refAll_stop E ia ic da dc ea ec B t cs w hE ht hB hpk hj1 hj2 hmt hmany hel ha
  · exact refAll_go E ia ic da dc ea ec B t cs w hE ht hB hpk hj1 hj2 hmt hmany hel ha
end Go.Proofs.YtjeldfipipkfiaaGreatDoor
