/- The contracts of scope.twice, unknown, circle, hidden, bad. -/
import Derived.Test.YtjeldfipipkfiaaGreatMensC
import Derived.Test.YtjeldfipipkfiaaGreatGReg
namespace Go.Proofs.YtjeldfipipkfiaaGreat
open Go.RowKit
set_option linter.unusedSimpArgs false
set_option linter.unusedVariables false
theorem RowsK.take {K : Nat} {w : World} {B : Nat} {A : Option Addr} {n n' : Nat} {f : Nat → Array Value} (h : RowsK K w B A n f) (hn : n' ≤ n) : RowsK K w B A n' f := by
  rcases h with h | ⟨b, o, h1, h2, h3⟩
  · exact .inl (by omega)
  · exact .inr ⟨b, o, h1, h2, fun i hi => h3 i (by omega)⟩
theorem DclsAt.take {w : World} {B : Nat} {A : Option Addr} {l : List Dcl} (h : DclsAt w B A l) (k : Nat) : DclsAt w B A (l.take k) := by
  obtain ⟨f, h1, h2⟩ := h
  refine ⟨f, h1.take (by rw [List.length_take]; omega), fun i hi => ?_⟩
  rw [List.getElem_take]
  exact h2 i (by rw [List.length_take] at hi; omega)
theorem ImpsAt.take {w : World} {B : Nat} {A : Option Addr} {l : List Imp} (h : ImpsAt w B A l) (k : Nat) : ImpsAt w B A (l.take k) := by
  obtain ⟨f, h1, h2⟩ := h
  refine ⟨f, h1.take (by rw [List.length_take]; omega), fun i hi => ?_⟩
  rw [List.getElem_take]
  exact h2 i (by rw [List.length_take] at hi; omega)
theorem Fr.setB {M : Nat → Prop} {w w1 : World} {p : Addr} {v : Value} (hb : Below w.heap.size w w1) (hp : M p.block) : Fr M w (w1.setCell p v) :=
  ⟨hb.os, hb.tape, hb.output, by have := hb.size; simp [World.setCell]; omega, fun b h hn => (Below.heap_setCell w1 p v b (fun e => hn (e ▸ hp))).trans (hb.block b h)⟩
set_option maxRecDepth 100000 in
set_option maxHeartbeats 4000000 in
theorem twice1_c (x d : Dcl) (g : Nat) (na : Option Addr) (nc : Nat) (sa : Option Addr) (sc : Nat) (w : World) (h0 : w.cell? ⟨g, 0, none⟩ = some (.int .i64 d.kind)) (h1 : w.cell? ⟨g, 1, none⟩ = some (.string d.name)) (hlt : g < w.heap.size) :
    Calls Tryz.prog 131 #[.agg (dclCells x na nc sa sc), .pointer (some ⟨g, 0, none⟩)] w fun e w' => e = .returned (.bool (likeD x d)) ∧ Below w.heap.size w w' := by
  obtain ⟨v, hv⟩ : ∃ v, likeD x d = v := ⟨_, rfl⟩
  rw [hv]
  have HV := Lib.hid hv
  clear hv
  simp only [dclCells]
  go_enter Tryz.func131, Tryz.ntmps131
  cases hn : (x.name.toList == d.name.toList)
  · go_wp2_with fail
    go_ret
    exact ⟨ret_b (by rw [← HV.out, likeD, hn]; rfl), (Below.refl _ _).alloc (Nat.le_refl _) _⟩
  · go_wp2_with fail
    go_ret
    exact ⟨ret_b (by rw [← HV.out, likeD, hn]; rfl), (Below.refl _ _).alloc (Nat.le_refl _) _⟩
set_option maxRecDepth 100000 in
set_option maxHeartbeats 8000000 in
theorem twice_c (m : Mdl) (ia : Option Addr) (ic : Nat) (da : Option Addr) (dc B : Nat) (i : Nat) (w : World) (hm : MdlC w B m ia ic da dc) (hB : B ≤ w.heap.size) (hl : m.decls.length ≤ 1000000) (hi : i < m.decls.length) :
    Calls Tryz.prog 83 #[.agg (mdlCells m ia ic da dc), .int .i64 i] w fun e w' => e = .returned (.bool (twiceB m.decls i)) ∧ Below w.heap.size w w' := by
  obtain ⟨d, hd⟩ : ∃ d, m.decls[i] = d := ⟨_, rfl⟩
  obtain ⟨hfd, bd, od, na', nc', sa', sc', hda, hbd, htd, e0, e1, e2, e3, e4, e5, e6, e7, e8⟩ := hm.decls.elem hi hd
  obtain rfl := hda
  have HM := Lib.hid hm
  have HTD := Lib.hid htd
  have HD := Lib.hid hd
  have hiI : (i : Int) < (m.decls.length : Int) := by omega
  have hi0 : (0 : Int) ≤ (i : Int) := by omega
  have lbd : bd < w.heap.size := by omega
  clear hm htd hd hfd
  simp only [mdlCells]
  go_enter Tryz.func83, Tryz.ntmps83
  go_upto_region 1 with fail
  obtain ⟨W1, hWq, b1, hb1, hz1⟩ := laidNX w #[.string m.name, .slice ia m.imps.length ic, .slice (some ⟨bd, od, none⟩) m.decls.length dc] 25
  rewrite [← hWq]; clear hWq
  have e0 := (hb1.cell (p := ⟨bd, od + i * 9, none⟩) lbd).trans e0
  have e1 := (hb1.cell (p := ⟨bd, od + i * 9 + 1, none⟩) lbd).trans e1
  have e2 := (hb1.cell (p := ⟨bd, od + i * 9 + 2, none⟩) lbd).trans e2
  have e3 := (hb1.cell (p := ⟨bd, od + i * 9 + 3, none⟩) lbd).trans e3
  have e4 := (hb1.cell (p := ⟨bd, od + i * 9 + 4, none⟩) lbd).trans e4
  have e5 := (hb1.cell (p := ⟨bd, od + i * 9 + 5, none⟩) lbd).trans e5
  have e6 := (hb1.cell (p := ⟨bd, od + i * 9 + 6, none⟩) lbd).trans e6
  have e7 := (hb1.cell (p := ⟨bd, od + i * 9 + 7, none⟩) lbd).trans e7
  have e8 := (hb1.cell (p := ⟨bd, od + i * 9 + 8, none⟩) lbd).trans e8
  obtain ⟨x0, x1, x2⟩ := cellsT3 b1
  have lg0 := b1.lt
  have B1 := Lib.hid hb1
  have D1 := Lib.hid b1
  have lbd1 : bd < W1.heap.size := by omega
  clear hb1 b1
  go_upto_region 2 with fail
  clear e0 e1 e2 e3 e4 e5 e6 e7 e8 x0 x1 x2 lg0
  clear e0 e1 e2 e3 e4 e5 e6 e7 e8
  obtain ⟨W2, hWq, b2, hb2, hz2⟩ := laidNX W1 #[.int .i64 d.kind, .string d.name, .int .i64 d.ty.kind, .string d.ty.pkg, .int .i64 d.ty.major, .string d.ty.mod, .string d.ty.name, .slice na' d.ty.names.length nc', .slice sa' d.ty.subs.length sc'] 55
  rewrite [← hWq]; clear hWq
  rw [hz1] at b2
  have D1 := Lib.hid (D1.out.under hb2 D1.out.lt)
  have D2 := Lib.hid b2
  have B2 := Lib.hid (B1.out.trans (hb2.mono B1.out.size))
  have hB2 : B ≤ W2.heap.size := Nat.le_trans hB B2.out.size
  have HM2 := Lib.hid (HM.out.under (B2.out.mono hB))
  have HTD2 := Lib.hid (HTD.out.under (B2.out.mono hB))
  obtain ⟨x0, x1, x2⟩ := cellsT3 D1.out
  obtain ⟨k0, k1, k2, k3, k4, k5, k6, k7, k8⟩ := cellsT9 D2.out
  have lg0 := D1.out.lt
  have lg1 := D2.out.lt
  clear b2 hb2 B1 HM HTD
  have hlen : (m.decls.take i).length = i := by rw [List.length_take]; omega
  have hcap := HM2.out.dcap
  have hcapI : (i : Int) ≤ (dc : Int) := by omega
  have hc := fun W (hb : Below W2.heap.size W2 W) => conDcl_c 131 (.pointer (some ⟨w.heap.size + 1, 0, none⟩)) (fun x => likeD x d) (some ⟨bd, od, none⟩) dc B (m.decls.take i) W ((HM2.out.decls.take i).under (hb.mono hB2)) (Nat.le_trans hB2 hb.size) (by omega) (by intro a w; rfl)
    (fun w' hb' x hx na nc sa sc _ _ => twice1_c x d (w.heap.size + 1) na nc sa sc w' (((D2.out.under hb D2.out.lt).under hb' (Nat.lt_of_lt_of_le D2.out.lt hb.size)).cell 0) (((D2.out.under hb D2.out.lt).under hb' (Nat.lt_of_lt_of_le D2.out.lt hb.size)).cell 1) (Nat.lt_of_lt_of_le (Nat.lt_of_lt_of_le D2.out.lt hb.size) hb'.size))
  rw [show (m.decls.take i).any (fun x => likeD x d) = twiceB m.decls i by rw [twiceB, List.getElem?_eq_getElem hi, HD.out]] at hc
  rw [hlen] at hc
  have HC := Lib.hid hc
  clear hc hlen hcap
  go_wp2_with (go_at_call 128; refine (HC.out _ (Below.refl _ _)).mono ?_; rintro e w3 ⟨rfl, hb⟩; have B3 := Lib.hid (B2.out.trans (hb.mono B2.out.size)); clear hb)
  go_ret
  exact ⟨rfl, B3.out⟩
/-! unknown -/
set_option maxRecDepth 100000 in
set_option maxHeartbeats 4000000 in
theorem unk11_c (x : Imp) (s : ByteArray) (g : Nat) (w : World) (h3 : w.cell? ⟨g, 3, none⟩ = some (.string s)) (hlt : g < w.heap.size) :
    Calls Tryz.prog 134 #[.agg (impCells x), .pointer (some ⟨g, 0, none⟩)] w fun e w' => e = .returned (.bool (x.asN.toList == s.toList)) ∧ Below w.heap.size w w' := by
  simp only [impCells]
  go_enter Tryz.func134, Tryz.ntmps134
  go_wp2_with fail
  go_ret
  exact ⟨rfl, (Below.refl _ _).alloc (Nat.le_refl _) _⟩
structure UnkR (m : Mdl) (ia : Option Addr) (ic : Nat) (da : Option Addr) (dc B g0 gb : Nat) (s : Bool) (M : Nat → Prop) (w : World) : Prop where
  low : B ≤ g0
  ord : g0 < gb
  box : Blk w g0 (mdlCells m ia ic da dc) 25
  mdl : MdlC w B m ia ic da dc
  bad : Blk w gb #[.bool s] 4
  mem : ∀ b, M b ↔ b = gb
theorem UnkR.under {m : Mdl} {ia : Option Addr} {ic : Nat} {da : Option Addr} {dc B g0 gb : Nat} {s : Bool} {M : Nat → Prop} {w w' : World} (h : UnkR m ia ic da dc B g0 gb s M w) (hb : Below w.heap.size w w') : UnkR m ia ic da dc B g0 gb s M w' := by
  have hl := h.box.lt
  have := h.low
  exact ⟨h.low, h.ord, h.box.under hb h.box.lt, h.mdl.under (hb.mono (by omega)), h.bad.under hb h.bad.lt, h.mem⟩
theorem UnkR.set {m : Mdl} {ia : Option Addr} {ic : Nat} {da : Option Addr} {dc B g0 gb : Nat} {s s' : Bool} {M : Nat → Prop} {w : World} (h : UnkR m ia ic da dc B g0 gb s M w) : UnkR m ia ic da dc B g0 gb s' M (w.setCell ⟨gb, 0, none⟩ (.bool s')) := by
  have h1 := h.low
  have h2 := h.ord
  have hb : Below B w (w.setCell ⟨gb, 0, none⟩ (.bool s')) := (Below.refl _ _).setCell (p := ⟨gb, 0, none⟩) (by show B ≤ gb; omega) _
  exact ⟨h.low, h.ord, h.box.far _ _ (by show g0 ≠ gb; omega), h.mdl.under hb, by have := h.bad.set 0 (.bool s'); simpa using this, h.mem⟩
set_option maxRecDepth 100000 in
set_option maxHeartbeats 8000000 in
theorem unk1_c (m : Mdl) (ia : Option Addr) (ic : Nat) (da : Option Addr) (dc B g0 gb : Nat) (t : Ty) (cs : Array Value) (s : Bool) (M : Nat → Prop) (w : World) (ht : TyC w B t cs) (hB : B ≤ w.heap.size) (hr : UnkR m ia ic da dc B g0 gb s M w) (hl : m.decls.length ≤ 1000000) (hl2 : m.imps.length ≤ 1000000) :
    Calls Tryz.prog 133 #[.agg cs, .pointer (some ⟨gb, 0, none⟩), .pointer (some ⟨g0, 0, none⟩)] w fun e w' => e = .returned (.tuple #[]) ∧ ∃ M', UnkR m ia ic da dc B g0 gb (s || !knownL m t) M' w' ∧ (∀ b, M' b → M b ∨ w.heap.size ≤ b) ∧ Fr M w w' := by
  obtain ⟨kn, hkn⟩ : ∃ kn, knownL m t = kn := ⟨_, rfl⟩
  rw [hkn]
  have HKN := Lib.hid hkn
  clear hkn
  obtain ⟨na, nc, sa, sc, f, rfl, hf, hn, hs, hnc, hsc, hsub⟩ := ht.inv
  have hb0 := (Below.refl w.heap.size w).alloc (Nat.le_refl _) (.cells #[.int .i64 t.kind, .string t.pkg, .int .i64 t.major, .string t.mod, .string t.name, .slice na t.names.length nc, .slice sa t.subs.length sc] 53)
  have hr0 := hr.under hb0
  have d0 := Blk.new w #[.int .i64 t.kind, .string t.pkg, .int .i64 t.major, .string t.mod, .string t.name, .slice na t.names.length nc, .slice sa t.subs.length sc] 53
  clear hr ht hs hsub hn hf
  simp only [tyCells]
  go_enter Tryz.func133, Tryz.ntmps133
  go_upto_region 1 with fail
  generalize w.alloc (.cells #[.int .i64 t.kind, .string t.pkg, .int .i64 t.major, .string t.mod, .string t.name, .slice na t.names.length nc, .slice sa t.subs.length sc] 53) = W at hb0 hr0 d0 ⊢
  have R0 := Lib.hid hr0
  have HB0 := Lib.hid hb0
  have D0 := Lib.hid d0
  have hBW : B ≤ W.heap.size := Nat.le_trans hB hb0.size
  have k3 := d0.cell 3
  have k4 := d0.cell 4
  simp at k3 k4
  have kl := d0.lt
  have hbox := hr0.box
  simp only [mdlCells] at hbox
  obtain ⟨x0, x1, x2⟩ := cellsT3 hbox
  have xl := hr0.box.lt
  have z0 := cellsT1 hr0.bad
  have zf := hr0.bad.free 0
  have zl := hr0.bad.lt
  have HMM := Lib.hid (fun b (h : b = gb) => (hr0.mem b).2 h)
  clear hr0 hb0 d0 hbox
  have hmk : ∀ w1 (v : Bool), Below W.heap.size W w1 → UnkR m ia ic da dc B g0 gb v M (w1.setCell ⟨gb, 0, none⟩ (.bool v)) ∧ Fr M w (w1.setCell ⟨gb, 0, none⟩ (.bool v)) := fun w1 v hb =>
    ⟨(R0.out.under hb).set, Fr.setB (HB0.out.trans (hb.mono HB0.out.size)) (HMM.out gb rfl)⟩
  have HMK := Lib.hid hmk
  clear hmk
  cases hmod : t.mod.toList.isEmpty
  · have hk : (m.imps.any fun x => x.asN.toList == t.mod.toList) = kn := by rw [← HKN.out, knownL, if_neg (by rw [hmod]; decide)]
    have hc := fun W1 (hb : Below W.heap.size W W1) => conImp_c 134 (.pointer (some ⟨w.heap.size, 0, none⟩)) (fun x => x.asN.toList == t.mod.toList) ia ic B m.imps W1 (R0.out.mdl.imps.under (hb.mono hBW)) (Nat.le_trans hBW hb.size) hl2 (by intro a w; rfl)
      (fun w' hb' x hx => unk11_c x t.mod w.heap.size w' (((D0.out.under hb D0.out.lt).under hb' (Nat.lt_of_lt_of_le D0.out.lt hb.size)).cell 3) (Nat.lt_of_lt_of_le (Nat.lt_of_lt_of_le D0.out.lt hb.size) hb'.size))
    simp only [hk] at hc
    have HC := Lib.hid hc
    clear hc hk
    cases s
    · go_wp2_with (go_at_call 38; refine (HC.out _ (Below.refl _ _)).mono ?_; rintro e w3 ⟨rfl, hb⟩; have B3 := Lib.hid hb; have z0 := (hb.cell (p := ⟨gb, 0, none⟩) zl).trans z0; have zf := (hb.frozen (p := ⟨gb, 0, none⟩) zl).trans zf; have zl3 := Nat.lt_of_lt_of_le zl hb.size; clear hb)
      refine bodyPost_end (by simp [results, Tryz.results133, go_sem]; try rfl) rfl ?_
      exact ⟨rfl, M, (HMK.out _ _ B3.out).1, fun b h => .inl h, (HMK.out _ _ B3.out).2⟩
    · go_wp2_with fail
      refine bodyPost_end (by simp [results, Tryz.results133, go_sem]; try rfl) rfl ?_
      exact ⟨rfl, M, (HMK.out _ _ (Below.refl _ _)).1, fun b h => .inl h, (HMK.out _ _ (Below.refl _ _)).2⟩
  · have hk : hasD m.decls t.name = kn := by rw [← HKN.out, knownL, if_pos hmod]
    have hc := fun W1 (hb : Below W.heap.size W W1) => find_c m t.name ia ic da dc B W1 (R0.out.mdl.under (hb.mono hBW)) (Nat.le_trans hBW hb.size) hl
    have hlt0 : decide (idxP (isT t.name) m.decls < 0) = !hasD m.decls t.name := by
      cases hh : hasD m.decls t.name
      · rw [has_no (by rw [hh]; decide)]; rfl
      · have := has_idx hh; simp; omega
    obtain ⟨q, hq⟩ : ∃ q, idxP (isT t.name) m.decls = q := ⟨_, rfl⟩
    simp only [hq, mdlCells] at hc
    rw [hq, hk] at hlt0
    have HC := Lib.hid hc
    clear hc hq hk
    cases s
    · go_wp2_with (go_at_call 135; refine (HC.out _ (Below.refl _ _)).mono ?_; rintro e w3 ⟨rfl, hb⟩; have B3 := Lib.hid hb; have z0 := (hb.cell (p := ⟨gb, 0, none⟩) zl).trans z0; have zf := (hb.frozen (p := ⟨gb, 0, none⟩) zl).trans zf; have zl3 := Nat.lt_of_lt_of_le zl hb.size; clear hb)
      refine bodyPost_end (by simp [results, Tryz.results133, go_sem]; try rfl) rfl ?_
      first
        | exact ⟨rfl, M, (HMK.out _ _ B3.out).1, fun b h => .inl h, (HMK.out _ _ B3.out).2⟩
        | (rw [hlt0]; exact ⟨rfl, M, (HMK.out _ _ B3.out).1, fun b h => .inl h, (HMK.out _ _ B3.out).2⟩)
    · go_wp2_with fail
      refine bodyPost_end (by simp [results, Tryz.results133, go_sem]; try rfl) rfl ?_
      exact ⟨rfl, M, (HMK.out _ _ (Below.refl _ _)).1, fun b h => .inl h, (HMK.out _ _ (Below.refl _ _)).2⟩
theorem unk_fold (m : Mdl) : ∀ (l : List Ty) (s : Bool), l.foldl (fun s l => s || !knownL m l) s = (s || l.any fun l => !knownL m l)
  | [], s => by simp
  | x :: l, s => by rw [List.foldl_cons, unk_fold m l, List.any_cons, Bool.or_assoc]
set_option maxRecDepth 100000 in
theorem unkL_c (m : Mdl) (ia : Option Addr) (ic : Nat) (da : Option Addr) (dc B g0 gb : Nat) (t : Ty) (cs : Array Value) (s : Bool) (M : Nat → Prop) (w : World) (ht : TyC w B t cs) (hB : B ≤ w.heap.size) (hr : UnkR m ia ic da dc B g0 gb s M w) (hl : m.decls.length ≤ 1000000) (hl2 : m.imps.length ≤ 1000000) :
    Calls Tryz.prog 132 #[.agg cs, .func (.func 133) #[] #[.pointer (some ⟨gb, 0, none⟩), .pointer (some ⟨g0, 0, none⟩)]] w fun e w' => e = .returned (.tuple #[]) ∧ ∃ M', UnkR m ia ic da dc B g0 gb ((localsT t).foldl (fun s l => s || !knownL m l) s) M' w' ∧ (∀ b, M' b → M b ∨ w.heap.size ≤ b) ∧ Fr M w w' :=
  locals_c 133 _ _ (fun o M w => UnkR m ia ic da dc B g0 gb o M w) (fun s l => s || !knownL m l) B (by intro a w; rfl) (fun s M w w' h hb => h.under hb) (fun s M w h b hb => by have := (h.mem b).1 hb; subst this; exact ⟨by have := h.low; have := h.ord; omega, h.bad.lt⟩)
    (fun s M l cs w _ h1 h2 h3 => unk1_c m ia ic da dc B g0 gb l cs s M w h1 h2 h3 hl hl2) t s M cs w ht hB hr
set_option maxRecDepth 100000 in
set_option maxHeartbeats 8000000 in
theorem unknown_c (m : Mdl) (ia : Option Addr) (ic : Nat) (da : Option Addr) (dc B : Nat) (i : Nat) (w : World) (hm : MdlC w B m ia ic da dc) (hB : B ≤ w.heap.size) (hl : m.decls.length ≤ 1000000) (hi : i < m.decls.length) (hl2 : m.imps.length ≤ 1000000) (d : Dcl) (hd : m.decls[i] = d) :
    Calls Tryz.prog 84 #[.agg (mdlCells m ia ic da dc), .int .i64 i] w fun e w' => e = .returned (.bool (unknownB m d)) ∧ Below w.heap.size w w' := by
  obtain ⟨hfd, bd, od, na', nc', sa', sc', hda, hbd, htd, e0, e1, e2, e3, e4, e5, e6, e7, e8⟩ := hm.decls.elem hi hd
  obtain rfl := hda
  have HM := Lib.hid hm
  have HTD := Lib.hid htd
  have hiI : (i : Int) < (m.decls.length : Int) := by omega
  have hi0 : (0 : Int) ≤ (i : Int) := by omega
  have lbd : bd < w.heap.size := by omega
  clear hm htd hd hfd
  simp only [mdlCells]
  go_enter Tryz.func84, Tryz.ntmps84
  go_upto_region 2 with fail
  obtain ⟨b1, hb1, hz1⟩ := laidN w #[.string m.name, .slice ia m.imps.length ic, .slice (some ⟨bd, od, none⟩) m.decls.length dc] 25
  obtain ⟨b2, hb2, hz2⟩ := laidN (w.alloc (.cells #[.string m.name, .slice ia m.imps.length ic, .slice (some ⟨bd, od, none⟩) m.decls.length dc] 25)) #[.bool false] 4
  have b1 := b1.under hb2 b1.lt
  have hb2 := hb1.trans (hb2.mono hb1.size)
  generalize (w.alloc (.cells #[.string m.name, .slice ia m.imps.length ic, .slice (some ⟨bd, od, none⟩) m.decls.length dc] 25)).alloc (.cells #[.bool false] 4) = W2 at b1 b2 hb2 hz2 ⊢
  rw [hz1] at b2 hz2
  have e0 := (hb2.cell (p := ⟨bd, od + i * 9, none⟩) lbd).trans e0
  have e1 := (hb2.cell (p := ⟨bd, od + i * 9 + 1, none⟩) lbd).trans e1
  have e2 := (hb2.cell (p := ⟨bd, od + i * 9 + 2, none⟩) lbd).trans e2
  have e3 := (hb2.cell (p := ⟨bd, od + i * 9 + 3, none⟩) lbd).trans e3
  have e4 := (hb2.cell (p := ⟨bd, od + i * 9 + 4, none⟩) lbd).trans e4
  have e5 := (hb2.cell (p := ⟨bd, od + i * 9 + 5, none⟩) lbd).trans e5
  have e6 := (hb2.cell (p := ⟨bd, od + i * 9 + 6, none⟩) lbd).trans e6
  have e7 := (hb2.cell (p := ⟨bd, od + i * 9 + 7, none⟩) lbd).trans e7
  have e8 := (hb2.cell (p := ⟨bd, od + i * 9 + 8, none⟩) lbd).trans e8
  obtain ⟨x0, x1, x2⟩ := cellsT3 b1
  have lg0 := b1.lt
  have B2 := Lib.hid hb2
  have hB2 : B ≤ W2.heap.size := Nat.le_trans hB hb2.size
  have lbd2 : bd < W2.heap.size := by have := hb2.size; omega
  have R2 := Lib.hid (show UnkR m ia ic (some ⟨bd, od, none⟩) dc B w.heap.size (w.heap.size + 1) false (fun b => b = w.heap.size + 1) W2 from ⟨hB, by omega, b1, HM.out.under (hb2.mono hB), b2, fun b => Iff.rfl⟩)
  have hc := unkL_c m ia ic (some ⟨bd, od, none⟩) dc B w.heap.size (w.heap.size + 1) d.ty _ false _ W2 (HTD.out.under (hb2.mono hB)) hB2 R2.out hl hl2
  rw [unk_fold, Bool.false_or] at hc
  simp only [tyCells] at hc
  rw [show ((localsT d.ty).any fun l => !knownL m l) = unknownB m d from rfl] at hc
  have HC := Lib.hid hc
  clear hc hb2 b1 b2 hb1
  go_wp2_with (go_at_call 132; refine HC.out.mono ?_; rintro e w3 ⟨rfl, M3, h1, h2, h3⟩; have z0 := cellsT1 h1.bad; have zl := h1.bad.lt; have F3 := Lib.hid (B2.out.trans (h3.below (fun b hb => by have := hb; omega) B2.out.size)); clear h1 h2 h3)
  go_ret
  exact ⟨rfl, F3.out⟩
/-! circle -/
theorem memN_memB (out : List ByteArray) (s : ByteArray) : memB s out = memN out s := by rw [Bool.eq_iff_iff, memB_iff, memN_iff]
theorem ment_len (ds : List Dcl) (t : Ty) : (mentF ds t).length ≤ ds.length := by
  have := nodup_len (mentF_law ds t).1 (fun x hx => has_mem (rch_has (((mentF_law ds t).2 x).1 hx)))
  rwa [List.length_map] at this
set_option maxRecDepth 100000 in
set_option maxHeartbeats 8000000 in
theorem circle_c (m : Mdl) (ia : Option Addr) (ic : Nat) (da : Option Addr) (dc B : Nat) (i : Nat) (w : World) (hm : MdlC w B m ia ic da dc) (hB : B ≤ w.heap.size) (hl : m.decls.length ≤ 1000000) (hi : i < m.decls.length) (dd : Dcl) (hdd : m.decls[i] = dd) :
    Calls Tryz.prog 85 #[.agg (mdlCells m ia ic da dc), .int .i64 i] w fun e w' => e = .returned (.bool (circleB m.decls dd)) ∧ Below w.heap.size w w' := by
  obtain ⟨cb, hcb⟩ : ∃ cb, circleB m.decls dd = cb := ⟨_, rfl⟩
  rw [hcb]
  have HCB := Lib.hid hcb
  clear hcb
  obtain ⟨d, hd⟩ : ∃ d, m.decls[i] = d := ⟨_, rfl⟩
  obtain ⟨hfd, bd, od, na', nc', sa', sc', hda, hbd, htd, e0, e1, e2, e3, e4, e5, e6, e7, e8⟩ := hm.decls.elem hi hd
  obtain rfl := hda
  have HM := Lib.hid hm
  have HTD := Lib.hid htd
  have HD := Lib.hid hd
  have hiI : (i : Int) < (m.decls.length : Int) := by omega
  have hi0 : (0 : Int) ≤ (i : Int) := by omega
  have lbd : bd < w.heap.size := by omega
  clear hm htd hd hfd
  simp only [mdlCells]
  go_enter Tryz.func85, Tryz.ntmps85
  go_upto_region 1 with fail
  obtain ⟨W1, hWq, b1, hb1, hz1⟩ := laidNX w #[.string m.name, .slice ia m.imps.length ic, .slice (some ⟨bd, od, none⟩) m.decls.length dc] 25
  rewrite [← hWq]; clear hWq
  have e0 := (hb1.cell (p := ⟨bd, od + i * 9, none⟩) lbd).trans e0
  have e1 := (hb1.cell (p := ⟨bd, od + i * 9 + 1, none⟩) lbd).trans e1
  have e2 := (hb1.cell (p := ⟨bd, od + i * 9 + 2, none⟩) lbd).trans e2
  have e3 := (hb1.cell (p := ⟨bd, od + i * 9 + 3, none⟩) lbd).trans e3
  have e4 := (hb1.cell (p := ⟨bd, od + i * 9 + 4, none⟩) lbd).trans e4
  have e5 := (hb1.cell (p := ⟨bd, od + i * 9 + 5, none⟩) lbd).trans e5
  have e6 := (hb1.cell (p := ⟨bd, od + i * 9 + 6, none⟩) lbd).trans e6
  have e7 := (hb1.cell (p := ⟨bd, od + i * 9 + 7, none⟩) lbd).trans e7
  have e8 := (hb1.cell (p := ⟨bd, od + i * 9 + 8, none⟩) lbd).trans e8
  obtain ⟨x0, x1, x2⟩ := cellsT3 b1
  have lg0 := b1.lt
  have B1 := Lib.hid hb1
  have D1 := Lib.hid b1
  have lbd1 : bd < W1.heap.size := by omega
  clear hb1 b1
  go_upto_region 2 with fail
  clear e0 e1 e2 e3 e4 e5 e6 e7 e8 x0 x1 x2 lg0
  clear e0 e1 e2 e3 e4 e5 e6 e7 e8
  obtain ⟨W2, hWq, b2, hb2, hz2⟩ := laidNX W1 #[.int .i64 d.kind, .string d.name, .int .i64 d.ty.kind, .string d.ty.pkg, .int .i64 d.ty.major, .string d.ty.mod, .string d.ty.name, .slice na' d.ty.names.length nc', .slice sa' d.ty.subs.length sc'] 55
  rewrite [← hWq]; clear hWq
  rw [hz1] at b2
  have D1 := Lib.hid (D1.out.under hb2 D1.out.lt)
  have D2 := Lib.hid b2
  have B2 := Lib.hid (B1.out.trans (hb2.mono B1.out.size))
  have hB2 : B ≤ W2.heap.size := Nat.le_trans hB B2.out.size
  have HM2 := Lib.hid (HM.out.under (B2.out.mono hB))
  have HTD2 := Lib.hid (HTD.out.under (B2.out.mono hB))
  obtain ⟨x0, x1, x2⟩ := cellsT3 D1.out
  obtain ⟨k0, k1, k2, k3, k4, k5, k6, k7, k8⟩ := cellsT9 D2.out
  have lg0 := D1.out.lt
  have lg1 := D2.out.lt
  clear b2 hb2 B1 HM HTD
  obtain rfl : dd = d := hdd.symm.trans HD.out
  clear hdd
  cases h3 : (dd.kind == 3)
  · have hr : cb = false := by rw [← HCB.out, circleB, h3]; rfl
    subst hr
    go_quiet (fail)
    go_wp2_with fail
    go_ret
    exact ⟨rfl, below_drewN B2.out _⟩
  · have hr : memB dd.name (mentF m.decls dd.ty) = cb := by rw [← HCB.out, circleB, h3, memN_memB]; rfl
    have HR := Lib.hid hr
    have hmn := fun W (hb : Below W2.heap.size W2 W) => mentions_c m ia ic (some ⟨bd, od, none⟩) dc B dd.ty _ W (HM2.out.under (hb.mono hB2)) (HTD2.out.under (hb.mono hB2)) (Nat.le_trans hB2 hb.size) hl
    simp only [tyCells, mdlCells] at hmn
    have HMN := Lib.hid hmn
    have HLN := Lib.hid (show (mentF m.decls dd.ty).length ≤ maxLen by have := ment_len m.decls dd.ty; unfold maxLen; omega)
    clear hmn hr
    refine wp_region_until [(7, fun w' => w'.cell? ⟨w.heap.size, 0, none⟩ = some (.string m.name) ∧ w'.cell? ⟨w.heap.size, 1, none⟩ = some (.slice ia m.imps.length ic) ∧ w'.cell? ⟨w.heap.size, 2, none⟩ = some (.slice (some ⟨bd, od, none⟩) m.decls.length dc) ∧ w'.cell? ⟨w.heap.size + 1, 0, none⟩ = some (.int .i64 dd.kind) ∧ w'.cell? ⟨w.heap.size + 1, 1, none⟩ = some (.string dd.name) ∧ w'.cell? ⟨w.heap.size + 1, 2, none⟩ = some (.int .i64 dd.ty.kind) ∧ w'.cell? ⟨w.heap.size + 1, 3, none⟩ = some (.string dd.ty.pkg) ∧ w'.cell? ⟨w.heap.size + 1, 4, none⟩ = some (.int .i64 dd.ty.major) ∧ w'.cell? ⟨w.heap.size + 1, 5, none⟩ = some (.string dd.ty.mod) ∧ w'.cell? ⟨w.heap.size + 1, 6, none⟩ = some (.string dd.ty.name) ∧ w'.cell? ⟨w.heap.size + 1, 7, none⟩ = some (.slice na' dd.ty.names.length nc') ∧ w'.cell? ⟨w.heap.size + 1, 8, none⟩ = some (.slice sa' dd.ty.subs.length sc')), (10, fun w' => w'.cell? ⟨w.heap.size + 1, 0, none⟩ = some (.int .i64 dd.kind) ∧ w'.cell? ⟨w.heap.size + 1, 1, none⟩ = some (.string dd.name)), (12, fun w' => w'.cell? ⟨w.heap.size + 1, 0, none⟩ = some (.int .i64 dd.kind) ∧ w'.cell? ⟨w.heap.size + 1, 1, none⟩ = some (.string dd.name))] (by kernel_rfl) (Until.cons (fun _ => ⟨x0, x1, x2, k0, k1, k2, k3, k4, k5, k6, k7, k8⟩) (Until.cons (fun _ => ⟨k0, k1⟩) (Until.cons (fun _ => ⟨k0, k1⟩) Until.nil))) (fun hU => ?_)
    refine AnyU.take (i := 0) (v := ?_) rfl (by kernel_rfl) (by kernel_rfl) (by kernel_rfl) (fun _ _ _ h => h) (by kernel_rfl) (by assumption) (by rfl) ?_ (fun hV => ?_)
    rotate_left 1
    · (intro wq; go_simp; try with_reducible rfl)
    clear hU; have hU := hV; clear hV
    try simp only [Act.put, aput]
    refine AnyU.loadc (i := 1) (d := 12) [2, 3, 11, 12] (Si := fun w' => w'.cell? ⟨w.heap.size + 1, 0, none⟩ = some (.int .i64 dd.kind) ∧ w'.cell? ⟨w.heap.size + 1, 1, none⟩ = some (.string dd.name)) (v := ?_) rfl (by kernel_rfl) (by kernel_rfl) (by kernel_rfl) (fun _ _ _ h => h) (by kernel_rfl) (by assumption) (by kernel_rfl) rfl (by simp) (by rfl) ?_ (fun hV => ?_)
    rotate_left 1
    · (intro wq hq; obtain ⟨u, -⟩ := hq; go_simp; try with_reducible rfl)
    clear hU; have hU := hV; clear hV
    try simp only [Act.put, aput]
    refine AnyU.take (i := 2) (v := ?_) rfl (by kernel_rfl) (by kernel_rfl) (by kernel_rfl) (fun _ _ _ h => h) (by kernel_rfl) (by assumption) (by rfl) ?_ (fun hV => ?_)
    rotate_left 1
    · (intro wq; go_simp; try with_reducible rfl)
    clear hU; have hU := hV; clear hV
    try simp only [Act.put, aput]
    refine AnyU.take (i := 3) (v := ?_) rfl (by kernel_rfl) (by kernel_rfl) (by kernel_rfl) (fun _ _ _ h => h) (by kernel_rfl) (by assumption) (by rfl) ?_ (fun hV => ?_)
    rotate_left 1
    · (intro wq; go_simp; try with_reducible rfl)
    clear hU; have hU := hV; clear hV
    try simp only [Act.put, aput]
    refine AnyU.loadc (i := 4) (d := 7) [7] (Si := fun w' => w'.cell? ⟨w.heap.size, 0, none⟩ = some (.string m.name) ∧ w'.cell? ⟨w.heap.size, 1, none⟩ = some (.slice ia m.imps.length ic) ∧ w'.cell? ⟨w.heap.size, 2, none⟩ = some (.slice (some ⟨bd, od, none⟩) m.decls.length dc) ∧ w'.cell? ⟨w.heap.size + 1, 0, none⟩ = some (.int .i64 dd.kind) ∧ w'.cell? ⟨w.heap.size + 1, 1, none⟩ = some (.string dd.name) ∧ w'.cell? ⟨w.heap.size + 1, 2, none⟩ = some (.int .i64 dd.ty.kind) ∧ w'.cell? ⟨w.heap.size + 1, 3, none⟩ = some (.string dd.ty.pkg) ∧ w'.cell? ⟨w.heap.size + 1, 4, none⟩ = some (.int .i64 dd.ty.major) ∧ w'.cell? ⟨w.heap.size + 1, 5, none⟩ = some (.string dd.ty.mod) ∧ w'.cell? ⟨w.heap.size + 1, 6, none⟩ = some (.string dd.ty.name) ∧ w'.cell? ⟨w.heap.size + 1, 7, none⟩ = some (.slice na' dd.ty.names.length nc') ∧ w'.cell? ⟨w.heap.size + 1, 8, none⟩ = some (.slice sa' dd.ty.subs.length sc')) (v := ?_) rfl (by kernel_rfl) (by kernel_rfl) (by kernel_rfl) (fun _ _ _ h => h) (by kernel_rfl) (by assumption) (by kernel_rfl) rfl (by simp) (by rfl) ?_ (fun hV => ?_)
    rotate_left 1
    · (intro wq hq; obtain ⟨u0, u1, u2, -⟩ := hq; go_simp; try with_reducible rfl)
    clear hU; have hU := hV; clear hV
    try simp only [Act.put, aput]
    refine AnyU.take (i := 5) (v := ?_) rfl (by kernel_rfl) (by kernel_rfl) (by kernel_rfl) (fun _ _ _ h => h) (by kernel_rfl) (by assumption) (by rfl) ?_ (fun hV => ?_)
    rotate_left 1
    · (intro wq; go_simp; try with_reducible rfl)
    clear hU; have hU := hV; clear hV
    try simp only [Act.put, aput]
    refine AnyU.loadc (i := 6) (d := 7) [7] (Si := fun w' => w'.cell? ⟨w.heap.size, 0, none⟩ = some (.string m.name) ∧ w'.cell? ⟨w.heap.size, 1, none⟩ = some (.slice ia m.imps.length ic) ∧ w'.cell? ⟨w.heap.size, 2, none⟩ = some (.slice (some ⟨bd, od, none⟩) m.decls.length dc) ∧ w'.cell? ⟨w.heap.size + 1, 0, none⟩ = some (.int .i64 dd.kind) ∧ w'.cell? ⟨w.heap.size + 1, 1, none⟩ = some (.string dd.name) ∧ w'.cell? ⟨w.heap.size + 1, 2, none⟩ = some (.int .i64 dd.ty.kind) ∧ w'.cell? ⟨w.heap.size + 1, 3, none⟩ = some (.string dd.ty.pkg) ∧ w'.cell? ⟨w.heap.size + 1, 4, none⟩ = some (.int .i64 dd.ty.major) ∧ w'.cell? ⟨w.heap.size + 1, 5, none⟩ = some (.string dd.ty.mod) ∧ w'.cell? ⟨w.heap.size + 1, 6, none⟩ = some (.string dd.ty.name) ∧ w'.cell? ⟨w.heap.size + 1, 7, none⟩ = some (.slice na' dd.ty.names.length nc') ∧ w'.cell? ⟨w.heap.size + 1, 8, none⟩ = some (.slice sa' dd.ty.subs.length sc')) (v := ?_) rfl (by kernel_rfl) (by kernel_rfl) (by kernel_rfl) (fun _ _ _ h => h) (by kernel_rfl) (by assumption) (by kernel_rfl) rfl (by simp) (by rfl) ?_ (fun hV => ?_)
    rotate_left 1
    · (intro wq hq; obtain ⟨-, -, -, -, -, u2, u3, u4, u5, u6, u7, u8⟩ := hq; go_simp; try with_reducible rfl)
    clear hU; have hU := hV; clear hV
    try simp only [Act.put, aput]
    refine AnyU.take (i := 8) (v := ?_) rfl (by kernel_rfl) (by kernel_rfl) (by kernel_rfl) (fun _ _ _ h => h) (by kernel_rfl) (by assumption) (by rfl) ?_ (fun hV => ?_)
    rotate_left 1
    · (intro wq; go_simp; try with_reducible rfl)
    clear hU; have hU := hV; clear hV
    try simp only [Act.put, aput]
    refine AnyU.loadc (i := 9) (d := 10) [10] (Si := fun w' => w'.cell? ⟨w.heap.size + 1, 0, none⟩ = some (.int .i64 dd.kind) ∧ w'.cell? ⟨w.heap.size + 1, 1, none⟩ = some (.string dd.name)) (v := ?_) rfl (by kernel_rfl) (by kernel_rfl) (by kernel_rfl) (fun _ _ _ h => h) (by kernel_rfl) (by assumption) (by kernel_rfl) rfl (by simp) (by rfl) ?_ (fun hV => ?_)
    rotate_left 1
    · (intro wq hq; obtain ⟨-, u⟩ := hq; go_simp; try with_reducible rfl)
    clear hU; have hU := hV; clear hV
    try simp only [Act.put, aput]
    refine AnyU.ready1 (i := 7) (by kernel_rfl) (AnyU.one rfl fun K hK => ?_)
    go_simp
    go_at_call 136
    refine (HMN.out W2.drew ((Below.refl _ _).drew)).mono ?_
    rintro e w3 ⟨v, rfl, hown, hb⟩
    have hb3 : Below W2.heap.size W2 w3 := (Below.refl _ _).drew.trans hb
    obtain ⟨A, c, rfl, hsa, hcap⟩ := own_strs hown rfl
    have HSA := Lib.hid hsa
    have HB3 := Lib.hid (B2.out.trans (hb3.mono B2.out.size))
    have k0 := (hb3.cell (p := ⟨w.heap.size + 1, 0, none⟩) lg1).trans k0
    have k1 := (hb3.cell (p := ⟨w.heap.size + 1, 1, none⟩) lg1).trans k1
    clear hown hsa hb hb3 hcap
    refine hK.out _ _ (Until.cons (fun h => absurd h (by decide)) (Until.cons (fun _ => ⟨k0, k1⟩) (Until.cons (fun _ => ⟨k0, k1⟩) Until.nil))) (fun hV => ?_)
    clear hK K
    clear hU; have hU := hV; clear hV
    try simp only [Act.put, aput]
    refine AnyU.ready1 (i := 10) (by kernel_rfl) (AnyU.one rfl fun K hK => ?_)
    go_simp
    go_at_call 87
    have hcc := contains_c A c _ (mentF m.decls dd.ty) dd.name w3 HLN.out HSA.out
    rw [HR.out] at hcc
    refine hcc.mono ?_
    clear hcc
    rintro e w4 ⟨rfl, hw⟩
    obtain rfl := hw.symm
    refine hK.out _ _ (Until.cons (fun h => absurd h (by decide)) (Until.cons (fun h => absurd h (by decide)) (Until.cons (fun _ => ⟨k0, k1⟩) Until.nil))) (fun hV => ?_)
    clear hK K
    clear hU; have hU := hV; clear hV
    try simp only [Act.put, aput]
    refine AnyU.take (i := 11) (v := ?_) rfl (by kernel_rfl) (by kernel_rfl) (by kernel_rfl) (fun _ _ _ h => h) (by kernel_rfl) (by assumption) (by rfl) ?_ (fun hV => ?_)
    rotate_left 1
    · (intro wq; go_simp; try with_reducible rfl)
    clear hU; have hU := hV; clear hV
    try simp only [Act.put, aput]
    refine AnyU.ready1 (i := 12) (by kernel_rfl) (AnyU.one rfl fun K hK => ?_)
    go_simp
    refine hK.out _ _ (Until.offT (by kernel_rfl)) (fun hV => ?_)
    clear hK K
    clear hU; have hU := hV; clear hV
    try simp only [Act.put, aput]
    refine AnyU.done (by kernel_rfl) ?_
    go_wp2_with fail
    go_ret
    exact ⟨rfl, HB3.out⟩
/-! hidden -/
set_option maxRecDepth 100000 in
set_option maxHeartbeats 8000000 in
theorem hid1_c (m : Mdl) (ia : Option Addr) (ic : Nat) (da : Option Addr) (dc B g : Nat) (s : ByteArray) (w : World) (hm : MdlC w B m ia ic da dc) (hB : B ≤ w.heap.size) (hl : m.decls.length ≤ 1000000) (hg : Blk w g (mdlCells m ia ic da dc) 25) (hh : hasD m.decls s = true) :
    Calls Tryz.prog 137 #[.string s, .pointer (some ⟨g, 0, none⟩)] w fun e w' => e = .returned (.bool (kindAt m.decls s == 2)) ∧ Below w.heap.size w w' := by
  obtain ⟨j, hj⟩ := Option.isSome_iff_exists.1 hh
  obtain ⟨hjl, hjn, -⟩ := findD_name hj
  have hq : idxP (isT s) m.decls = ((j : Nat) : Int) := by rw [findF_idx, show findD m.decls s = some j from hj]
  obtain ⟨d, hd⟩ : ∃ d, m.decls[j] = d := ⟨_, rfl⟩
  have hk : kindAt m.decls s = d.kind := by rw [kindAt_some hj hjl, hd]
  rw [hk]
  obtain ⟨hfd, bd, od, na', nc', sa', sc', hda, hbd, htd, e0, -⟩ := hm.decls.elem hjl hd
  obtain rfl := hda
  have hf := fun W (hb : Below w.heap.size w W) => find_c m s ia ic (some ⟨bd, od, none⟩) dc B W (hm.under (hb.mono hB)) (Nat.le_trans hB hb.size) hl
  simp only [hq, mdlCells] at hf
  have HF := Lib.hid hf
  simp only [mdlCells] at hg
  obtain ⟨x0, x1, x2⟩ := cellsT3 hg
  have lg := hg.lt
  have lbd : bd < w.heap.size := by omega
  have hjI : (j : Int) < (m.decls.length : Int) := by omega
  have hj0 : (0 : Int) ≤ (j : Int) := by omega
  clear hf hq hg hm htd hd hk hj hjn hfd
  go_enter Tryz.func137, Tryz.ntmps137
  go_upto_region 1 with fail
  refine wp_region_until [(4, fun w' => w'.cell? ⟨g, 0, none⟩ = some (.string m.name) ∧ w'.cell? ⟨g, 1, none⟩ = some (.slice ia m.imps.length ic) ∧ w'.cell? ⟨g, 2, none⟩ = some (.slice (some ⟨bd, od, none⟩) m.decls.length dc)), (9, fun w' => w'.cell? ⟨g, 2, none⟩ = some (.slice (some ⟨bd, od, none⟩) m.decls.length dc) ∧ w'.cell? ⟨bd, od + j * 9, none⟩ = some (.int .i64 d.kind))] (by kernel_rfl) (Until.cons (fun _ => ⟨x0, x1, x2⟩) (Until.cons (fun _ => ⟨x2, e0⟩) Until.nil)) (fun hU => ?_)
  refine AnyU.take (i := 0) (v := ?_) rfl (by kernel_rfl) (by kernel_rfl) (by kernel_rfl) (fun _ _ _ h => h) (by kernel_rfl) (by assumption) (by rfl) ?_ (fun hV => ?_)
  rotate_left 1
  · (intro wq; go_simp; try with_reducible rfl)
  clear hU; have hU := hV; clear hV
  try simp only [Act.put, aput]
  refine AnyU.loadc (i := 1) (d := 9) [5, 6, 7, 8, 9] (Si := fun w' => w'.cell? ⟨g, 2, none⟩ = some (.slice (some ⟨bd, od, none⟩) m.decls.length dc) ∧ w'.cell? ⟨bd, od + j * 9, none⟩ = some (.int .i64 d.kind)) (v := ?_) rfl (by kernel_rfl) (by kernel_rfl) (by kernel_rfl) (fun _ _ _ h => h) (by kernel_rfl) (by assumption) (by kernel_rfl) rfl (by simp) (by rfl) ?_ (fun hV => ?_)
  rotate_left 1
  · (intro wq hq; obtain ⟨u, -⟩ := hq; go_simp; try with_reducible rfl)
  clear hU; have hU := hV; clear hV
  try simp only [Act.put, aput]
  refine AnyU.loadc (i := 2) (d := 4) [4] (Si := fun w' => w'.cell? ⟨g, 0, none⟩ = some (.string m.name) ∧ w'.cell? ⟨g, 1, none⟩ = some (.slice ia m.imps.length ic) ∧ w'.cell? ⟨g, 2, none⟩ = some (.slice (some ⟨bd, od, none⟩) m.decls.length dc)) (v := ?_) rfl (by kernel_rfl) (by kernel_rfl) (by kernel_rfl) (fun _ _ _ h => h) (by kernel_rfl) (by assumption) (by kernel_rfl) rfl (by simp) (by rfl) ?_ (fun hV => ?_)
  rotate_left 1
  · (intro wq hq; obtain ⟨u0, u1, u2⟩ := hq; go_simp; try with_reducible rfl)
  clear hU; have hU := hV; clear hV
  try simp only [Act.put, aput]
  refine AnyU.take (i := 3) (v := ?_) rfl (by kernel_rfl) (by kernel_rfl) (by kernel_rfl) (fun _ _ _ h => h) (by kernel_rfl) (by assumption) (by rfl) ?_ (fun hV => ?_)
  rotate_left 1
  · (intro wq; go_simp; try with_reducible rfl)
  clear hU; have hU := hV; clear hV
  try simp only [Act.put, aput]
  refine AnyU.ready1 (i := 4) (by kernel_rfl) (AnyU.one rfl fun K hK => ?_)
  go_simp
  go_at_call 135
  refine (HF.out w.drew ((Below.refl _ _).drew)).mono ?_
  rintro e w2 ⟨rfl, hb⟩
  have hb2 : Below w.heap.size w w2 := (Below.refl _ _).drew.trans hb
  have x2 := (hb2.cell (p := ⟨g, 2, none⟩) lg).trans x2
  have e0 := (hb2.cell (p := ⟨bd, od + j * 9, none⟩) lbd).trans e0
  have HB2 := Lib.hid hb2
  clear hb hb2
  refine hK.out _ _ (Until.cons (fun h => absurd h (by decide)) (Until.cons (fun _ => ⟨x2, e0⟩) Until.nil)) (fun hV => ?_)
  clear hK K
  clear hU; have hU := hV; clear hV
  try simp only [Act.put, aput]
  refine AnyU.take (i := 5) (v := ?_) rfl (by kernel_rfl) (by kernel_rfl) (by kernel_rfl) (fun _ _ _ h => h) (by kernel_rfl) (by assumption) (by rfl) ?_ (fun hV => ?_)
  rotate_left 1
  · (intro wq; go_simp; try with_reducible rfl)
  clear hU; have hU := hV; clear hV
  try simp only [Act.put, aput]
  refine AnyU.take (i := 6) (v := ?_) rfl (by kernel_rfl) (by kernel_rfl) (by kernel_rfl) (fun _ _ _ h => h) (by kernel_rfl) (by assumption) (by rfl) ?_ (fun hV => ?_)
  rotate_left 1
  · (intro wq; go_simp; try with_reducible rfl)
  clear hU; have hU := hV; clear hV
  try simp only [Act.put, aput]
  refine AnyU.loadc (i := 7) (d := 9) [8, 9] (Si := fun w' => w'.cell? ⟨g, 2, none⟩ = some (.slice (some ⟨bd, od, none⟩) m.decls.length dc) ∧ w'.cell? ⟨bd, od + j * 9, none⟩ = some (.int .i64 d.kind)) (v := ?_) rfl (by kernel_rfl) (by kernel_rfl) (by kernel_rfl) (fun _ _ _ h => h) (by kernel_rfl) (by assumption) (by kernel_rfl) rfl (by simp) (by rfl) ?_ (fun hV => ?_)
  rotate_left 1
  · (intro wq hq; obtain ⟨-, u⟩ := hq; go_simp; try with_reducible rfl)
  clear hU; have hU := hV; clear hV
  try simp only [Act.put, aput]
  refine AnyU.take (i := 8) (v := ?_) rfl (by kernel_rfl) (by kernel_rfl) (by kernel_rfl) (fun _ _ _ h => h) (by kernel_rfl) (by assumption) (by rfl) ?_ (fun hV => ?_)
  rotate_left 1
  · (intro wq; go_simp; try with_reducible rfl)
  clear hU; have hU := hV; clear hV
  try simp only [Act.put, aput]
  refine AnyU.ready1 (i := 9) (by kernel_rfl) (AnyU.one rfl fun K hK => ?_)
  go_simp
  refine hK.out _ _ (Until.offT (by kernel_rfl)) (fun hV => ?_)
  clear hK K
  clear hU; have hU := hV; clear hV
  try simp only [Act.put, aput]
  refine AnyU.done (by kernel_rfl) ?_
  go_wp2_with fail
  go_ret
  exact ⟨rfl, HB2.out⟩
set_option maxRecDepth 100000 in
set_option maxHeartbeats 8000000 in
theorem hidden_c (m : Mdl) (ia : Option Addr) (ic : Nat) (da : Option Addr) (dc B : Nat) (i : Nat) (w : World) (hm : MdlC w B m ia ic da dc) (hB : B ≤ w.heap.size) (hl : m.decls.length ≤ 1000000) (hi : i < m.decls.length) (dd : Dcl) (hdd : m.decls[i] = dd) :
    Calls Tryz.prog 86 #[.agg (mdlCells m ia ic da dc), .int .i64 i] w fun e w' => e = .returned (.bool (hiddenB m.decls dd)) ∧ Below w.heap.size w w' := by
  obtain ⟨hv, hhv⟩ : ∃ hv, hiddenB m.decls dd = hv := ⟨_, rfl⟩
  rw [hhv]
  have HFIN := Lib.hid (show ((dd.kind == 3 || dd.kind == 4) && (mentF m.decls dd.ty).any fun s => kindAt m.decls s == 2) = hv from hhv)
  clear hhv
  obtain ⟨d, hd⟩ : ∃ d, m.decls[i] = d := ⟨_, rfl⟩
  obtain ⟨hfd, bd, od, na', nc', sa', sc', hda, hbd, htd, e0, e1, e2, e3, e4, e5, e6, e7, e8⟩ := hm.decls.elem hi hd
  obtain rfl := hda
  have HM := Lib.hid hm
  have HTD := Lib.hid htd
  have HD := Lib.hid hd
  have hiI : (i : Int) < (m.decls.length : Int) := by omega
  have hi0 : (0 : Int) ≤ (i : Int) := by omega
  have lbd : bd < w.heap.size := by omega
  clear hm htd hd hfd
  simp only [mdlCells]
  go_enter Tryz.func86, Tryz.ntmps86
  go_upto_region 1 with fail
  obtain ⟨W1, hWq, b1, hb1, hz1⟩ := laidNX w #[.string m.name, .slice ia m.imps.length ic, .slice (some ⟨bd, od, none⟩) m.decls.length dc] 25
  rewrite [← hWq]; clear hWq
  have e0 := (hb1.cell (p := ⟨bd, od + i * 9, none⟩) lbd).trans e0
  have e1 := (hb1.cell (p := ⟨bd, od + i * 9 + 1, none⟩) lbd).trans e1
  have e2 := (hb1.cell (p := ⟨bd, od + i * 9 + 2, none⟩) lbd).trans e2
  have e3 := (hb1.cell (p := ⟨bd, od + i * 9 + 3, none⟩) lbd).trans e3
  have e4 := (hb1.cell (p := ⟨bd, od + i * 9 + 4, none⟩) lbd).trans e4
  have e5 := (hb1.cell (p := ⟨bd, od + i * 9 + 5, none⟩) lbd).trans e5
  have e6 := (hb1.cell (p := ⟨bd, od + i * 9 + 6, none⟩) lbd).trans e6
  have e7 := (hb1.cell (p := ⟨bd, od + i * 9 + 7, none⟩) lbd).trans e7
  have e8 := (hb1.cell (p := ⟨bd, od + i * 9 + 8, none⟩) lbd).trans e8
  obtain ⟨x0, x1, x2⟩ := cellsT3 b1
  have lg0 := b1.lt
  have B1 := Lib.hid hb1
  have D1 := Lib.hid b1
  have lbd1 : bd < W1.heap.size := by omega
  clear hb1 b1
  go_upto_region 2 with fail
  clear e0 e1 e2 e3 e4 e5 e6 e7 e8 x0 x1 x2 lg0
  clear e0 e1 e2 e3 e4 e5 e6 e7 e8
  obtain ⟨W2, hWq, b2, hb2, hz2⟩ := laidNX W1 #[.int .i64 d.kind, .string d.name, .int .i64 d.ty.kind, .string d.ty.pkg, .int .i64 d.ty.major, .string d.ty.mod, .string d.ty.name, .slice na' d.ty.names.length nc', .slice sa' d.ty.subs.length sc'] 55
  rewrite [← hWq]; clear hWq
  rw [hz1] at b2
  have D1 := Lib.hid (D1.out.under hb2 D1.out.lt)
  have D2 := Lib.hid b2
  have B2 := Lib.hid (B1.out.trans (hb2.mono B1.out.size))
  have hB2 : B ≤ W2.heap.size := Nat.le_trans hB B2.out.size
  have HM2 := Lib.hid (HM.out.under (B2.out.mono hB))
  have HTD2 := Lib.hid (HTD.out.under (B2.out.mono hB))
  obtain ⟨x0, x1, x2⟩ := cellsT3 D1.out
  obtain ⟨k0, k1, k2, k3, k4, k5, k6, k7, k8⟩ := cellsT9 D2.out
  have lg0 := D1.out.lt
  have lg1 := D2.out.lt
  clear b2 hb2 B1 HM HTD
  obtain rfl : dd = d := hdd.symm.trans HD.out
  clear hdd
  have hmn := fun W (hb : Below W2.heap.size W2 W) => mentions_c m ia ic (some ⟨bd, od, none⟩) dc B dd.ty _ W (HM2.out.under (hb.mono hB2)) (HTD2.out.under (hb.mono hB2)) (Nat.le_trans hB2 hb.size) hl
  simp only [tyCells, mdlCells] at hmn
  have HMN := Lib.hid hmn
  have hcs := fun W (hb : Below W2.heap.size W2 W) A c (hs : StrsAt W W.heap.size A (mentF m.decls dd.ty)) => conStr_c 137 (.pointer (some ⟨w.heap.size, 0, none⟩)) (fun s => kindAt m.decls s == 2) A c W.heap.size (mentF m.decls dd.ty) W hs (Nat.le_refl _) (by have := ment_len m.decls dd.ty; omega) (by intro a w; rfl)
    (fun w' hb' x hx => hid1_c m ia ic (some ⟨bd, od, none⟩) dc B w.heap.size x w' (HM2.out.under ((hb.trans (hb'.mono hb.size)).mono hB2)) (Nat.le_trans hB2 (Nat.le_trans hb.size hb'.size)) hl ((D1.out.under hb D1.out.lt).under hb' (Nat.lt_of_lt_of_le D1.out.lt hb.size)) (rch_has (((mentF_law m.decls dd.ty).2 x).1 hx)))
  have HCS := Lib.hid hcs
  clear hmn hcs
  cases h3 : (dd.kind == 3)
  all_goals cases h4 : (dd.kind == 4)
  all_goals
    go_wp2_with (first
      | (go_at_call 136; refine (HMN.out _ (Below.refl _ _)).mono ?_; rintro e w3 ⟨v, rfl, hown, hb⟩; obtain ⟨A, c, rfl, hsa, hcap⟩ := own_strs hown rfl; have HSA := Lib.hid hsa; have HB3 := Lib.hid hb; clear hown hsa hb hcap)
      | (go_at_call 95; refine (HCS.out _ HB3.out A c HSA.out).mono ?_; rintro e w4 ⟨rfl, hb⟩; have HB4 := Lib.hid (HB3.out.trans (hb.mono HB3.out.size)); clear hb))
    go_ret
    first
      | exact ⟨ret_b (by rw [← HFIN.out]; simp [h3, h4]), B2.out.trans (HB4.out.mono B2.out.size)⟩
      | exact ⟨ret_b (by rw [← HFIN.out]; simp [h3, h4]), B2.out⟩
/-! bad -/
set_option maxRecDepth 100000 in
set_option maxHeartbeats 8000000 in
theorem bad_c (m : Mdl) (ia : Option Addr) (ic : Nat) (da : Option Addr) (dc B : Nat) (i : Nat) (w : World) (hm : MdlC w B m ia ic da dc) (hB : B ≤ w.heap.size) (hl : m.decls.length ≤ 1000000) (hi : i < m.decls.length) (hl2 : m.imps.length ≤ 1000000) (c : Int) (hc : c = 5 ∨ c = 4 ∨ c = 6 ∨ c = 10) :
    Calls Tryz.prog 44 #[.agg (mdlCells m ia ic da dc), .int .i64 i, .int .i64 c] w fun e w' => e = .returned (.bool (badD m c i)) ∧ Below w.heap.size w w' := by
  obtain ⟨d, hd⟩ : ∃ d, m.decls[i] = d := ⟨_, rfl⟩
  have h5 := fun W (hb : Below w.heap.size w W) => twice_c m ia ic da dc B i W (hm.under (hb.mono hB)) (Nat.le_trans hB hb.size) hl hi
  have h4 := fun W (hb : Below w.heap.size w W) => unknown_c m ia ic da dc B i W (hm.under (hb.mono hB)) (Nat.le_trans hB hb.size) hl hi hl2 d hd
  have h6 := fun W (hb : Below w.heap.size w W) => circle_c m ia ic da dc B i W (hm.under (hb.mono hB)) (Nat.le_trans hB hb.size) hl hi d hd
  have h10 := fun W (hb : Below w.heap.size w W) => hidden_c m ia ic da dc B i W (hm.under (hb.mono hB)) (Nat.le_trans hB hb.size) hl hi d hd
  have hr : badD m c i = if c = 5 then twiceB m.decls i else if c = 4 then unknownB m d else if c = 6 then circleB m.decls d else hiddenB m.decls d := by rw [badD, List.getElem?_eq_getElem hi, hd]
  rw [hr]
  clear hr hm
  simp only [mdlCells] at h4 h5 h6 h10 ⊢
  have H5 := Lib.hid h5
  have H4 := Lib.hid h4
  have H6 := Lib.hid h6
  have H10 := Lib.hid h10
  clear h5 h4 h6 h10 hd
  have hba := (Below.refl w.heap.size w).alloc (Nat.le_refl _) (.cells #[.string m.name, .slice ia m.imps.length ic, .slice da m.decls.length dc] 25)
  have HBA := Lib.hid hba
  clear hba
  rcases hc with rfl | rfl | rfl | rfl
  all_goals go_enter Tryz.func44, Tryz.ntmps44
  all_goals
    go_wp2_with (first
      | (go_at_call 83; refine (H5.out _ HBA.out).mono ?_; rintro e w3 ⟨rfl, hb⟩)
      | (go_at_call 84; refine (H4.out _ HBA.out).mono ?_; rintro e w3 ⟨rfl, hb⟩)
      | (go_at_call 85; refine (H6.out _ HBA.out).mono ?_; rintro e w3 ⟨rfl, hb⟩)
      | (go_at_call 86; refine (H10.out _ HBA.out).mono ?_; rintro e w3 ⟨rfl, hb⟩))
    go_ret
    exact ⟨rfl, HBA.out.trans (hb.mono HBA.out.size)⟩
end Go.Proofs.YtjeldfipipkfiaaGreat
