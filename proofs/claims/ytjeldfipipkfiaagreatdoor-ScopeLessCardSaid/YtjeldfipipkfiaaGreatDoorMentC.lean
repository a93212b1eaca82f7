/- What scope.mentions' closure does at a Local: it adds the name, if it is one of the module's and not there yet. -/
import Derived.Test.YtjeldfipipkfiaaGreatDoorLocC
import Derived.Test.YtjeldfipipkfiaaGreatDoorFindC
import Derived.Test.YtjeldfipipkfiaaGreatDoorOut2
import Derived.Test.YtjeldfipipkfiaaGreatDoorAppO
import Derived.OwnWalk
namespace Go.Proofs.YtjeldfipipkfiaaGreatDoor
open Go.RowKit
set_option linter.unusedSimpArgs false
set_option linter.unusedVariables false
theorem owns_lt2 {w : World} {base e size n g : Nat} {v : Value} {xs : List Value} (h : w.ownsRow base e size v n xs) (hg : v.ownBlock = some g) : base ≤ g ∧ g < w.heap.size := by
  obtain ⟨-, ⟨rfl, -⟩ | ⟨b, cap, cur, rfl, hb, hh, -⟩⟩ := h
  · cases hg
  · injection hg with hg
    subst hg
    exact ⟨hb, (Array.getElem?_eq_some_iff.1 hh).1⟩
/-- the closure's state: the module's box g0, the box g1 of the names met so far -/
structure MentR (m : Mdl) (ia : Option Addr) (ic : Nat) (da : Option Addr) (dc B g0 g1 : Nat) (out : List ByteArray) (M : Nat → Prop) (w : World) : Prop where
  low : B ≤ g0
  ord : g0 < g1
  box : Blk w g0 (mdlCells m ia ic da dc) 25
  mdl : MdlC w B m ia ic da dc
  nodup : out.Nodup
  has : ∀ x ∈ out, hasD m.decls x = true
  row : ∃ v, Blk w g1 #[v] 26 ∧ w.ownsRow (g1 + 1) 9 1 v out.length (out.map Value.string) ∧ ∀ b, M b ↔ (b = g1 ∨ v.ownBlock = some b)
theorem MentR.under {m : Mdl} {ia : Option Addr} {ic : Nat} {da : Option Addr} {dc B g0 g1 : Nat} {out : List ByteArray} {M : Nat → Prop} {w w' : World} (h : MentR m ia ic da dc B g0 g1 out M w) (hb : Below w.heap.size w w') : MentR m ia ic da dc B g0 g1 out M w' := by
  obtain ⟨h0, h1, h2, h3, h4, h5, v, h6, h7, h8⟩ := h
  have hl := h2.lt
  exact ⟨h0, h1, h2.under hb h2.lt, h3.under (hb.mono (by omega)), h4, h5, v, h6.under hb h6.lt, owns_under h7 hb, h8⟩
theorem MentR.mem {m : Mdl} {ia : Option Addr} {ic : Nat} {da : Option Addr} {dc B g0 g1 : Nat} {out : List ByteArray} {M : Nat → Prop} {w : World} (h : MentR m ia ic da dc B g0 g1 out M w) : ∀ b, M b → B ≤ b ∧ b < w.heap.size := by
  obtain ⟨h0, h1, h2, h3, h4, h5, v, h6, h7, h8⟩ := h
  intro b hb
  rcases (h8 b).1 hb with rfl | hb
  · exact ⟨by omega, h6.lt⟩
  · have := owns_lt2 h7 hb
    exact ⟨by omega, by omega⟩
theorem MentR.len {m : Mdl} {ia : Option Addr} {ic : Nat} {da : Option Addr} {dc B g0 g1 : Nat} {out : List ByteArray} {M : Nat → Prop} {w : World} (h : MentR m ia ic da dc B g0 g1 out M w) : out.length ≤ m.decls.length := by
  have := nodup_len h.nodup (fun x hx => has_mem (h.has x hx))
  rwa [List.length_map] at this
theorem MentR.add {m : Mdl} {ia : Option Addr} {ic : Nat} {da : Option Addr} {dc B g0 g1 : Nat} {out : List ByteArray} {M : Nat → Prop} {w w1 w2 : World} {v v2 : Value} {x : ByteArray} {o : Obj} (h : MentR m ia ic da dc B g0 g1 out M w)
    (hb1 : Below w.heap.size w w1) (hv : Blk w g1 #[v] 26) (hown : w.ownsRow (g1 + 1) 9 1 v out.length (out.map Value.string)) (hM : ∀ b, M b ↔ (b = g1 ∨ v.ownBlock = some b))
    (hg : (w1.alloc o).grownBy w2 v.ownBlock) (hown2 : w2.ownsRow (g1 + 1) 9 1 v2 (out.length + 1) (out.map Value.string ++ [.string x]))
    (hfr : v2.ownBlock = v.ownBlock ∨ ∀ g, v2.ownBlock = some g → (w1.alloc o).heap.size ≤ g) (hx : (out ++ [x]).Nodup) (hmem : hasD m.decls x = true) :
    ∃ M', MentR m ia ic da dc B g0 g1 (out ++ [x]) M' (w2.setCell ⟨g1, 0, none⟩ v2) ∧ (∀ b, M' b → M b ∨ w.heap.size ≤ b) ∧ Fr M w (w2.setCell ⟨g1, 0, none⟩ v2) := by
  have hba : Below w.heap.size w (w1.alloc o) := hb1.alloc hb1.size o
  have hmem' := h.mem
  have hbk : ∀ b, b < w.heap.size → v.ownBlock ≠ some b → w2.heap[b]? = w.heap[b]? := fun b hb hn => (hg.block b (Nat.lt_of_lt_of_le hb hba.size) (fun e => hn e.symm)).trans (hba.block b hb)
  have hoi : ∀ b, v.ownBlock = some b → g1 + 1 ≤ b := fun b hb => (owns_lt2 hown hb).1
  have hv2 : Blk w2 g1 #[v] 26 := (hbk g1 hv.lt (fun e => by have := hoi _ e; omega)).trans hv
  have hbx : Blk w2 g0 (mdlCells m ia ic da dc) 25 := (hbk g0 h.box.lt (fun e => by have := hoi _ e; have := h.ord; omega)).trans h.box
  have hF : Fr M w (w2.setCell ⟨g1, 0, none⟩ v2) := by
    refine ⟨hg.os.trans hba.os, hg.tape.trans hba.tape, hg.output.trans hba.output, ?_, fun b hb hn => ?_⟩
    · have := hba.size
      have := hg.size
      simp [World.setCell]
      omega
    · rw [hM] at hn
      exact (Below.heap_setCell w2 ⟨g1, 0, none⟩ v2 b (fun e => hn (.inl e))).trans (hbk b hb (fun e => hn (.inr e)))
  have hlow := h.low
  have hord := h.ord
  have hl1 := hv.lt
  refine ⟨fun b => b = g1 ∨ v2.ownBlock = some b, ⟨h.low, h.ord, hbx.far _ _ (by show g0 ≠ g1; omega), h.mdl.under (hF.below (fun b hb => (hmem' b hb).1) (by omega)), hx, ?_, v2, ?_, ?_, fun b => Iff.rfl⟩, ?_, hF⟩
  · intro y hy
    rcases List.mem_append.1 hy with hy | hy
    · exact h.has y hy
    · rw [List.mem_singleton.1 hy]; exact hmem
  · have := hv2.set 0 v2
    simpa using this
  · have := owns_keep (w' := w2.setCell ⟨g1, 0, none⟩ v2) hown2 (fun g hg => Below.heap_setCell w2 ⟨g1, 0, none⟩ v2 g (by have := (owns_lt2 hown2 hg).1; show g ≠ g1; omega))
    simpa using this
  · rintro b (rfl | hb)
    · exact .inl ((hM b).2 (.inl rfl))
    · rcases hfr with e | e
      · exact .inl ((hM b).2 (.inr (e ▸ hb)))
      · exact .inr (Nat.le_trans hba.size (e b hb))
theorem own_strs {w : World} {base n : Nat} {v : Value} {l : List ByteArray} (h : w.ownsRow base 9 1 v n (l.map Value.string)) (hn : l.length = n) :
    ∃ A c, v = .slice A l.length c ∧ StrsAt w w.heap.size A l ∧ l.length ≤ c := by
  obtain ⟨hl, ⟨rfl, h0⟩ | ⟨g, cap, cur, rfl, hb, hh, hnc, hcm, hsz, htk⟩⟩ := h
  · have : l = [] := by cases l with
      | nil => rfl
      | cons _ _ => simp at hn; omega
    subst this
    exact ⟨none, 0, rfl, .inl rfl, Nat.le_refl _⟩
  · subst hn
    refine ⟨_, cap, rfl, .inr ⟨g, 0, rfl, (Array.getElem?_eq_some_iff.1 hh).1, fun i hi => ?_⟩, hnc⟩
    have e : (l.map Value.string)[i]? = some (.string l[i]) := by simp [hi]
    rw [← htk, List.getElem?_take, if_pos (by omega)] at e
    simp [World.cell?, hh]
    simpa using e
theorem ba_inj {a b : ByteArray} (h : a.toList = b.toList) : a = b := by
  have := ba_eq a b
  rw [h] at this
  simpa using this
theorem has_idx {ds : List Dcl} {s : ByteArray} (h : hasD ds s = true) : 0 ≤ idxP (isT s) ds := by
  rw [hasD, findD, Option.isSome_iff_exists] at h
  obtain ⟨k, hk⟩ := h
  rw [idxP, hk]
  simp
theorem has_no {ds : List Dcl} {s : ByteArray} (h : ¬ hasD ds s = true) : idxP (isT s) ds = -1 := by
  rw [idxP]
  rw [hasD, findD] at h
  cases hf : ds.findIdx? (isT s) with
  | none => rfl
  | some k => rw [hf] at h; simp at h
theorem info_strM : ((Tryz.prog).info? 9).map (fun i => (i.zero, i.size, i.bytes)) = some (some (.string { data := #[] }), 1, 16) := by kernel_rfl
set_option maxRecDepth 100000 in
set_option maxHeartbeats 8000000 in
theorem ment1_c (m : Mdl) (ia : Option Addr) (ic : Nat) (da : Option Addr) (dc B g0 g1 : Nat) (t : Ty) (cs : Array Value) (out : List ByteArray) (M : Nat → Prop) (w : World) (ht : TyC w B t cs) (hB : B ≤ w.heap.size) (hr : MentR m ia ic da dc B g0 g1 out M w) (hl : m.decls.length ≤ 1000000) :
    Calls Tryz.prog 106 #[.agg cs, .pointer (some ⟨g0, 0, none⟩), .pointer (some ⟨g1, 0, none⟩)] w fun e w' => e = .returned (.tuple #[]) ∧ ∃ M', MentR m ia ic da dc B g0 g1 (addF m.decls out t) M' w' ∧ (∀ b, M' b → M b ∨ w.heap.size ≤ b) ∧ Fr M w w' := by
  obtain ⟨i0, hi, hz0, hz1, hz2⟩ := info_parts info_strM
  obtain ⟨na, nc, sa, sc, f, rfl, hf, hn, hs, hnc, hsc, hsub⟩ := ht.inv
  have hlen := hr.len
  have hb0 := (Below.refl w.heap.size w).alloc (Nat.le_refl _) (.cells #[.int .i64 t.kind, .string t.pkg, .int .i64 t.major, .string t.mod, .string t.name, .slice na t.names.length nc, .slice sa t.subs.length sc] 29)
  have hr0 := hr.under hb0
  have MW := Lib.hid hr.mem
  have d0 := Blk.new w #[.int .i64 t.kind, .string t.pkg, .int .i64 t.major, .string t.mod, .string t.name, .slice na t.names.length nc, .slice sa t.subs.length sc] 29
  clear hr ht hs hsub hn hf
  simp only [tyCells]
  go_enter Tryz.func106, Tryz.ntmps106
  go_upto_region 1 with fail
  generalize w.alloc (.cells #[.int .i64 t.kind, .string t.pkg, .int .i64 t.major, .string t.mod, .string t.name, .slice na t.names.length nc, .slice sa t.subs.length sc] 29) = W at hb0 hr0 d0 ⊢
  have R0 := Lib.hid hr0
  have HB0 := Lib.hid hb0
  obtain ⟨hlow, hord, hbox, hmdl, hnd, hhas, v, hv, hown, hM⟩ := hr0
  have k3 := d0.cell 3
  have k4 := d0.cell 4
  simp at k3 k4
  have kl := d0.lt
  have x0 := hbox.cell 0
  have x1 := hbox.cell 1
  have x2 := hbox.cell 2
  simp [mdlCells] at x0 x1 x2
  have xl := hbox.lt
  have z0 := hv.cell 0
  simp at z0
  have zl := hv.lt
  have HO := Lib.hid hown
  have HV := Lib.hid hv
  have HM := Lib.hid hM
  have HMD := Lib.hid hmdl
  clear hown hv hM hmdl hbox d0 hb0 hnd hhas
  have hBW : B ≤ W.heap.size := Nat.le_trans hB HB0.out.size
  by_cases hmod : t.mod.toList.isEmpty = true
  · obtain ⟨A, c, rfl, hsa, hown2⟩ := own_strs HO.out rfl
    have HSA := Lib.hid hsa
    clear hsa hown2
    have hmt : t.mod = { data := #[] } := by
      have := List.isEmpty_iff.1 hmod
      exact ba_inj (this.trans (by decide +kernel))
    have HFD := Lib.hid (find_c m t.name ia ic da dc B W HMD.out hBW hl)
    simp only [mdlCells] at HFD
    by_cases hh : hasD m.decls t.name = true
    · have hq0 : 0 ≤ idxP (isT t.name) m.decls := has_idx hh
      generalize idxP (isT t.name) m.decls = q at HFD hq0
      by_cases hin : t.name ∈ out
      · have HE := Lib.hid (show addF m.decls out t = out by rw [addF, if_neg]; simp [okL, memN_iff.2 hin])
        have HC := Lib.hid (show memB t.name out = true from (memB_iff _ _).2 hin)
        go_wp2_with (first
          | (go_at_call 107; refine HFD.out.mono ?_; rintro e w1 ⟨rfl, hb1⟩; have k4 := (hb1.cell (p := ⟨w.heap.size, 4, none⟩) kl).trans k4; have z0 := (hb1.cell (p := ⟨g1, 0, none⟩) zl).trans z0; have HSA1 := Lib.hid (HSA.out.keep fun p hp => hb1.cell (p := p) hp); have HB1 := Lib.hid hb1; have kl1 := Nat.lt_of_lt_of_le kl hb1.size; have zl1 := Nat.lt_of_lt_of_le zl hb1.size; clear hb1)
          | (go_at_call 108; refine (contains_c _ _ _ out t.name _ (by unfold maxLen; omega) HSA1.out).mono ?_; rintro e w2 ⟨rfl, rfl⟩; rw [HC.out]))
        refine bodyPost_end (by simp [results, Tryz.results106, go_sem]; try rfl) rfl ?_
        exact ⟨rfl, M, by rw [HE.out]; exact R0.out.under HB1.out, fun b h => .inl h, Fr.of_below (HB0.out.trans (HB1.out.mono HB0.out.size))⟩
      · have HC := Lib.hid (show memB t.name out = false by cases h : memB t.name out; rfl; exact absurd ((memB_iff _ _).1 h) hin)
        have HE := Lib.hid (show addF m.decls out t = out ++ [t.name] by rw [addF, if_pos]; simp [okL, hh, hmod]; cases h : memN out t.name; rfl; exact absurd (memN_iff.1 h) hin)
        go_upto_region 2 with (first
          | (go_at_call 107; refine HFD.out.mono ?_; rintro e w1 ⟨rfl, hb1⟩; have k4 := (hb1.cell (p := ⟨w.heap.size, 4, none⟩) kl).trans k4; have z0 := (hb1.cell (p := ⟨g1, 0, none⟩) zl).trans z0; have HSA1 := Lib.hid (HSA.out.keep fun p hp => hb1.cell (p := p) hp); have HB1 := Lib.hid hb1; have kl1 := Nat.lt_of_lt_of_le kl hb1.size; have zl1 := Nat.lt_of_lt_of_le zl hb1.size; clear hb1)
          | (go_at_call 108; refine (contains_c _ _ _ out t.name _ (by unfold maxLen; omega) HSA1.out).mono ?_; rintro e w2 ⟨rfl, rfl⟩; rw [HC.out]))
        go_wp2_with (at_builtin; go_loud (refine wpList_append_own2 rfl _ _ 26 rfl (g1 + 1) 9 i0 (.string { data := #[] }) 1 16 Tryz.underlying26 hi hz0 hz1 hz2 rfl (by decide) (.slice A out.length c) out.length _ rfl (owns_under (owns_under HO.out HB1.out) ((Below.refl w1.heap.size w1).alloc (Nat.le_refl _) _)) ⟨w1.heap.size, 0, none⟩ 1 1 [.string t.name] rfl rfl (by exact World.news_of_block (cs := #[.string t.name]) (t := 9) (fr := (0, 0)) (heap_alloc_new w1 _)) (by simp [Value.oneCell']) (by unfold maxLen; omega) (by omega) (by simp; omega) ?_; intro v2 w2 hown2 hg2 hfr2; obtain ⟨A2, c2, rfl, -, -⟩ := own_strs (l := out ++ [t.name]) (by simpa using hown2) (by simp); have HW2 := Lib.hid hown2; have HG2 := Lib.hid hg2; have HFR := Lib.hid hfr2; have hz2b : Blk w2 g1 #[.slice A out.length c] 26 := (hg2.block g1 (by simp; omega) (fun e => by have := (owns_lt2 HO.out e.symm).1; omega)).trans ((HV.out.under HB1.out HV.out.lt).alloc _); have z2 := hz2b.cell 0; have f2 := hz2b.free 0; simp at z2; clear hown2 hg2 hfr2 hz2b))
        clear z0
        obtain ⟨M2, h1, h2, h3⟩ := MentR.add R0.out HB1.out HV.out HO.out HM.out HG2.out HW2.out HFR.out (by have := addF_nodup (ds := m.decls) (l := t) R0.out.nodup; rwa [HE.out] at this) hh
        rw [show (out ++ [t.name]).length = out.length + 1 by simp] at h1 h3
        refine bodyPost_end (by simp [results, Tryz.results106, go_sem]; try rfl) rfl ?_
        exact ⟨rfl, M2, by rw [HE.out]; exact h1, fun b hb => (h2 b hb).imp id (fun h => Nat.le_trans HB0.out.size h), (Fr.of_below HB0.out).trans h3 (fun b h => .inl h)⟩
    · have HE := Lib.hid (show addF m.decls out t = out by rw [addF, if_neg]; simp [okL, hh])
      rw [has_no hh] at HFD
      go_wp2_with (go_at_call 107; refine HFD.out.mono ?_; rintro e w1 ⟨rfl, hb1⟩; have k4 := (hb1.cell (p := ⟨w.heap.size, 4, none⟩) kl).trans k4; have z0 := (hb1.cell (p := ⟨g1, 0, none⟩) zl).trans z0; have HSA1 := Lib.hid (HSA.out.keep fun p hp => hb1.cell (p := p) hp); have HB1 := Lib.hid hb1; have kl1 := Nat.lt_of_lt_of_le kl hb1.size; have zl1 := Nat.lt_of_lt_of_le zl hb1.size; clear hb1)
      refine bodyPost_end (by simp [results, Tryz.results106, go_sem]; try rfl) rfl ?_
      exact ⟨rfl, M, by rw [HE.out]; exact R0.out.under HB1.out, fun b h => .inl h, Fr.of_below (HB0.out.trans (HB1.out.mono HB0.out.size))⟩
  · have HE := Lib.hid (show addF m.decls out t = out by rw [addF, if_neg]; simp [okL]; intro h; exact absurd (by simpa using h) hmod)
    go_wp2_with fail
    refine bodyPost_end (by simp [results, Tryz.results106, go_sem]; try rfl) rfl ?_
    exact ⟨rfl, M, by rw [HE.out]; exact R0.out, fun b h => .inl h, Fr.of_below HB0.out⟩
set_option maxRecDepth 100000 in
/-- scope.locals over that closure: all names of the type's Locals -/
theorem mentL_c (m : Mdl) (ia : Option Addr) (ic : Nat) (da : Option Addr) (dc B g0 g1 : Nat) (t : Ty) (cs : Array Value) (out : List ByteArray) (M : Nat → Prop) (w : World) (ht : TyC w B t cs) (hB : B ≤ w.heap.size) (hr : MentR m ia ic da dc B g0 g1 out M w) (hl : m.decls.length ≤ 1000000) :
    Calls Tryz.prog 109 #[.agg cs, .func (.func 106) #[] #[.pointer (some ⟨g0, 0, none⟩), .pointer (some ⟨g1, 0, none⟩)]] w fun e w' => e = .returned (.tuple #[]) ∧ ∃ M', MentR m ia ic da dc B g0 g1 (locF m.decls out (localsT t)) M' w' ∧ (∀ b, M' b → M b ∨ w.heap.size ≤ b) ∧ Fr M w w' :=
  locals_c 106 _ _ (fun o M w => MentR m ia ic da dc B g0 g1 o M w) (addF m.decls) B (by intro a w; rfl) (fun s M w w' h hb => h.under hb) (fun s M w h => h.mem)
    (fun s M l cs w _ h1 h2 h3 => ment1_c m ia ic da dc B g0 g1 l cs s M w h1 h2 h3 hl) t out M cs w ht hB hr
end Go.Proofs.YtjeldfipipkfiaaGreatDoor
