/- The contract of merlonref06.Copy: the same module in memory of the call's own. -/
import Derived.Test.YtjeldfipipkfiaaGreatGModS
import Derived.Test.YtjeldfipipkfiaaGreatGBldS
import Derived.Test.YtjeldfipipkfiaaGreatCpE
import Derived.Test.YtjeldfipipkfiaaGreatGMent
namespace Go.Proofs.YtjeldfipipkfiaaGreat
open Go.RowKit
set_option linter.unusedSimpArgs false
set_option linter.unusedVariables false
set_option linter.unnecessarySimpa false
def flatI (l : List Imp) : List Value := flatK (fun i => (l[i]?.map impCells).getD #[]) l.length
theorem flatI_size (l : List Imp) : ∀ i, i < l.length → ((fun i => (l[i]?.map impCells).getD #[]) i).size = 4 := fun i hi => by simp [hi, impCells]
theorem flatI_one (l : List Imp) : ∀ u ∈ flatI l, u.oneCell' = true := flatK_one (K := 4) fun i hi => by simp [hi, impCells, Value.oneCell']
theorem flatI_src {w : World} {B : Nat} {a : Addr} {l : List Imp} (h : ImpsAt w B (some a) l) : ∀ j u, (flatI l)[j]? = some u → w.cell? (a.add j) = some u := by
  obtain ⟨f, h1, h2⟩ := h
  refine rows_src (B := B) (by decide) ?_ (flatI_size l)
  rcases h1 with h1 | ⟨b, o, hA, hb, hc⟩
  · exact .inl h1
  · refine .inr ⟨b, o, hA, hb, fun i hi j hj => ?_⟩
    have e : (fun i => (l[i]?.map impCells).getD #[]) i = f i := by rw [(h2 i hi).2]; simp [hi]
    rw [e] at hj
    exact (hc i hi j hj).trans (by show (f i)[j]? = _; rw [← e])
theorem flatI_at {w : World} {base : Nat} {v : Value} {l : List Imp} (h : w.ownsRow base 72 4 v l.length (flatI l)) (hf : ∀ x ∈ l, ImpFits x) : ∃ A c, v = .slice A l.length c ∧ l.length ≤ c ∧ ImpsAt w w.heap.size A l := by
  obtain ⟨A, c, h1, h2, h3⟩ := own_rows h (flatI_size l)
  exact ⟨A, c, h1, h2, _, h3, fun i hi => ⟨hf _ (List.getElem_mem hi), by simp [hi]⟩⟩
theorem impsFits' {w : World} {B : Nat} {A : Option Addr} {l : List Imp} (h : ImpsAt w B A l) : ∀ x ∈ l, ImpFits x := by
  intro x hx
  obtain ⟨i, hi, rfl⟩ := List.getElem_of_mem hx
  obtain ⟨f, -, h2⟩ := h
  exact (h2 i hi).1
structure CmR (m : Mdl) (W3 wr : World) (g0 g1 : Nat) (iv sv : Value) (F : List (Array Value)) (k : Nat) : Prop where
  box0 : Blk wr g0 #[.string m.name, iv, sv] 25
  box1 : Blk wr g1 #[.string { data := #[] }, .slice none 0 0, .slice none 0 0] 25
  row : RowD wr W3.heap.size (fun b => W3.heap.size ≤ b) sv (m.decls.take k) F
  fr : Fr (fun b => b = g0) W3 wr
set_option maxRecDepth 100000 in
set_option maxHeartbeats 40000000 in
theorem copyM_c (m : Mdl) (ia : Option Addr) (ic : Nat) (da : Option Addr) (dc B : Nat) (w : World) (hm : MdlC w B m ia ic da dc) (hB : B ≤ w.heap.size) (hfew : fewM m = true) :
    Calls Tryz.prog 9 #[.agg (mdlCells m ia ic da dc)] w fun e w' => ∃ ia' ic' da' dc', e = .returned (.agg (mdlCells m ia' ic' da' dc')) ∧ MdlC w' w'.heap.size m ia' ic' da' dc' ∧ Below w.heap.size w w' := by
  obtain ⟨i0, hi, hz0, hz1, hz2⟩ := info_parts infoDcl
  obtain ⟨j0, hj, hy0, hy1, hy2⟩ := info_parts infoImp
  have hfw := hfew
  simp only [fewM, Bool.and_eq_true, decide_eq_true_eq, List.all_eq_true] at hfw
  obtain ⟨-, hl1, hl2, hfd⟩ := hfw
  have HFD := Lib.hid (fun (x : Dcl) (h : x ∈ m.decls) => (show Few1 x.ty from few1_of (by have := hfd x h; rw [fewD, Bool.and_eq_true] at this; exact this.1)))
  have HM := Lib.hid hm
  clear hm hfew hfd
  simp only [mdlCells]
  go_enter Tryz.func9, Tryz.ntmps9
  go_upto_region 1 with fail
  have z1 : (w.alloc (.cells #[.string m.name, .slice ia m.imps.length ic, .slice da m.decls.length dc] 25)).heap.size = w.heap.size + 1 := by simp
  obtain ⟨b1, hb1, hz3⟩ := laidN w #[.string m.name, .slice ia m.imps.length ic, .slice da m.decls.length dc] 25
  obtain ⟨b2, hb2, hz4⟩ := laidN (w.alloc (.cells #[.string m.name, .slice ia m.imps.length ic, .slice da m.decls.length dc] 25)) #[.string { data := #[] }, .slice none 0 0, .slice none 0 0] 25
  have b3 := b1.under hb2 b1.lt
  have hb3 := hb1.trans (hb2.mono hb1.size)
  rw [z1] at b2 hz4
  clear b1 hb1 hb2
  generalize (w.alloc (.cells #[.string m.name, .slice ia m.imps.length ic, .slice da m.decls.length dc] 25)).alloc (.cells #[.string { data := #[] }, .slice none 0 0, .slice none 0 0] 25) = W1 at b3 b2 hb3 hz4 ⊢
  obtain ⟨x0, x1, x2⟩ := cellsT3 b3
  have y1 := b3.free 1
  have y2 := b3.free 2
  have lg0 := b3.lt
  have B1 := Lib.hid hb3
  have D1 := Lib.hid b3
  have R1 := Lib.hid b2
  have hBW : B ≤ W1.heap.size := Nat.le_trans hB hb3.size
  have HI := Lib.hid (HM.out.imps.under (hb3.mono hB))
  have hzw : W1.heap.size = w.heap.size + 1 + 1 := hz4
  clear hb3 b3 b2 z1 hz3
  have o0 := World.ownsRow_lit (base := w.heap.size + 1 + 1) (e := 72) (size := 4) W1 #[] 0 (by omega) (by unfold maxLen; omega) rfl
  rw [hzw] at o0
  have O0 := Lib.hid o0
  clear o0
  have hfin : ∀ (X : World) (iv : Value), Blk X w.heap.size #[.string m.name, .slice ia m.imps.length ic, .slice da m.decls.length dc] 25 → Blk X (w.heap.size + 1) #[.string { data := #[] }, .slice none 0 0, .slice none 0 0] 25 → X.ownsRow (w.heap.size + 1 + 1) 72 4 iv m.imps.length (flatI m.imps) → Below w.heap.size w X →
      ∃ iv', Blk (X.setCell ⟨w.heap.size, 1, none⟩ iv) w.heap.size #[.string m.name, iv', .slice da m.decls.length dc] 25 ∧ Blk (X.setCell ⟨w.heap.size, 1, none⟩ iv) (w.heap.size + 1) #[.string { data := #[] }, .slice none 0 0, .slice none 0 0] 25 ∧ (X.setCell ⟨w.heap.size, 1, none⟩ iv).ownsRow (w.heap.size + 1 + 1) 72 4 iv' m.imps.length (flatI m.imps) ∧ Below w.heap.size w (X.setCell ⟨w.heap.size, 1, none⟩ iv) := by
    intro X iv h0 h1 h2 h3
    refine ⟨iv, by have := h0.set 1 iv; simpa using this, h1.far _ _ (by show w.heap.size + 1 ≠ w.heap.size; omega), owns_keep h2 fun g hg => Below.heap_setCell X ⟨w.heap.size, 1, none⟩ iv g (by have := (owns_lt h2 hg).1; show g ≠ w.heap.size; omega), h3.setCell (p := ⟨w.heap.size, 1, none⟩) (Nat.le_refl _) _⟩
  have HFIN := Lib.hid hfin
  clear hfin
  have hX := (Below.refl W1.heap.size W1).alloc (Nat.le_refl _) (.cells #[] 72)
  have DX := Lib.hid (D1.out.under hX D1.out.lt)
  have RX := Lib.hid (R1.out.under hX R1.out.lt)
  have BX := Lib.hid (B1.out.trans (hX.mono B1.out.size))
  clear hX
  go_cut [6, 7, 8, 9, 10] (fun _ _ _ _ _ W2 => ∃ iv, Blk W2 w.heap.size #[.string m.name, iv, .slice da m.decls.length dc] 25 ∧ Blk W2 (w.heap.size + 1) #[.string { data := #[] }, .slice none 0 0, .slice none 0 0] 25 ∧ W2.ownsRow (w.heap.size + 1 + 1) 72 4 iv m.imps.length (flatI m.imps) ∧ Below w.heap.size w W2)
  case first =>
    cases ia with
    | none =>
      have hl0 : m.imps.length = 0 := by
        obtain ⟨f, h1, -⟩ := HI.out
        rcases h1 with h1 | ⟨b, o, h1, -⟩
        · exact h1
        · cases h1
      have HL0 := Lib.hid hl0
      clear hl0
      have x1' := (World.cell?_alloc_lt W1 (.cells #[] 72) ⟨w.heap.size, 1, none⟩ lg0).trans x1
      go_wp2_with (at_builtin; go_loud (refine wpList_append_noneC rfl _ _ 22 rfl (w.heap.size + 1 + 1) 72 j0 4 Tryz.underlying22 hj (.slice (some ⟨w.heap.size + 1 + 1, 0, none⟩) 0 0) 0 [] rfl O0.out m.imps.length ic rfl HL0.out ?_); generalize W1.alloc (.cells #[] 72) = X at DX RX BX O0 x1' ⊢; have x1'' := DX.out.cell 1; have y1'' := DX.out.free 1; have l1'' := DX.out.lt; simp at x1'')
      go_meet
      refine HFIN.out _ _ DX.out RX.out ?_ BX.out
      have : flatI m.imps = [] := by rw [flatI, HL0.out]; rfl
      rw [this, HL0.out]
      exact O0.out
    | some a =>
      have x1' := (World.cell?_alloc_lt W1 (.cells #[] 72) ⟨w.heap.size, 1, none⟩ lg0).trans x1
      have HS := Lib.hid (flatI_src (HI.out.alloc hBW (.cells #[] 72)))
      go_wp2_with (at_builtin; go_loud (refine wpList_append_own _ rfl _ _ 22 rfl (w.heap.size + 1 + 1) 72 j0 (.agg #[.string { data := #[] }, .int .i64 0, .string { data := #[] }, .string { data := #[] }]) 4 56 Tryz.underlying22 hj hy0 hy1 hy2 rfl (by decide) (.slice (some ⟨w.heap.size + 1 + 1, 0, none⟩) 0 0) 0 [] rfl O0.out a m.imps.length ic (flatI m.imps) rfl (flatK_len (flatI_size m.imps)) HS.out (flatI_one m.imps) (by unfold maxLen; omega) (by omega) (by simp; omega) ?_))
      intro v2 w2 hown2 hg2 _
      try simp only [Nat.zero_add, List.nil_append] at hown2
      obtain ⟨A2, c2, rfl, -, -⟩ := flatI_at hown2 (impsFits' HI.out)
      have HO2 := Lib.hid hown2
      have hne0 : some w.heap.size ≠ (Value.slice (some ⟨w.heap.size + 1 + 1, 0, none⟩) 0 0).ownBlock := fun e => by
        have e : w.heap.size = w.heap.size + 1 + 1 := by simpa [Value.ownBlock] using e
        omega
      have hne1 : some (w.heap.size + 1) ≠ (Value.slice (some ⟨w.heap.size + 1 + 1, 0, none⟩) 0 0).ownBlock := fun e => by
        have e : w.heap.size + 1 = w.heap.size + 1 + 1 := by simpa [Value.ownBlock] using e
        omega
      have D2 := Lib.hid (show Blk w2 w.heap.size #[.string m.name, .slice (some a) m.imps.length ic, .slice da m.decls.length dc] 25 from (hg2.block _ DX.out.lt hne0).trans DX.out)
      have R2 := Lib.hid (show Blk w2 (w.heap.size + 1) #[.string { data := #[] }, .slice none 0 0, .slice none 0 0] 25 from (hg2.block _ RX.out.lt hne1).trans RX.out)
      have B2 := Lib.hid (BX.out.grown hg2 BX.out.size (fun q hq => by
        have hq : w.heap.size + 1 + 1 = q := by simpa [Value.ownBlock] using hq
        omega))
      have x1'' := D2.out.cell 1
      have y1'' := D2.out.free 1
      have l1'' := D2.out.lt
      simp at x1''
      clear hown2 hg2 hne0 hne1
      go_wp2_with fail
      go_meet
      exact HFIN.out _ _ D2.out R2.out HO2.out B2.out
  case rest =>
    rename World => W2
    obtain ⟨iv, d2, r2, o2, hb2⟩ := hcut
    clear x0 x1 x2 y1 y2 lg0 HFIN DX RX BX O0 D1 R1 B1 hBW hzw HI
    have hg2 : ∀ g, iv.ownBlock = some g → w.heap.size + 1 + 1 ≤ g ∧ g < W2.heap.size := fun g hg => owns_lt o2 hg
    have hBW : B ≤ W2.heap.size := Nat.le_trans hB hb2.size
    obtain ⟨x0, x1, x2⟩ := cellsT3 d2
    have y2 := d2.free 2
    have lg0 := d2.lt
    go_upto_region 4 with fail
    have d3 : Blk (W2.setCell ⟨w.heap.size, 2, none⟩ (.slice none 0 0)) w.heap.size #[.string m.name, iv, .slice none 0 0] 25 := by have := d2.set 2 (.slice none 0 0); simpa using this
    have r3 := r2.far ⟨w.heap.size, 2, none⟩ (.slice none 0 0) (by show w.heap.size + 1 ≠ w.heap.size; omega)
    have o3 := owns_keep (w' := W2.setCell ⟨w.heap.size, 2, none⟩ (.slice none 0 0)) o2 fun g hg => Below.heap_setCell W2 ⟨w.heap.size, 2, none⟩ (.slice none 0 0) g (by have := (hg2 g hg).1; show g ≠ w.heap.size; omega)
    have hb3 := hb2.setCell (p := ⟨w.heap.size, 2, none⟩) (Nat.le_refl _) (.slice none 0 0)
    have hz3 : (W2.setCell ⟨w.heap.size, 2, none⟩ (.slice none 0 0)).heap.size = W2.heap.size := by simp [World.setCell]
    generalize W2.setCell ⟨w.heap.size, 2, none⟩ (.slice none 0 0) = W3 at d3 r3 o3 hb3 hz3 ⊢
    rw [← hz3] at hg2 hBW
    have HG2 := Lib.hid hg2
    have O3 := Lib.hid o3
    have B3 := Lib.hid hb3
    have r03 := Lib.hid (CmR.mk d3 r3 (RowD.nil W3 W3.heap.size _) (Fr.of_below (Below.refl _ _)) : CmR m W3 W3 w.heap.size (w.heap.size + 1) iv (.slice none 0 0) [] 0)
    have hw3 : w.heap.size + 1 < W3.heap.size := r3.lt
    clear hz3 hb3 o3 r3 d3 hg2 d2 r2 o2 hb2 x0 x1 x2 y2 lg0
    go_wp2
    go_loopw [4] (fun i wr => ∃ (k : Nat) (sv : Value) (F : List (Array Value)), i = .int .i64 k ∧ k ≤ m.decls.length ∧ CmR m W3 wr w.heap.size (w.heap.size + 1) iv sv F k) (fun i _ => m.decls.length - (intOf i).toNat)
    case atStart => exact ⟨0, _, _, rfl, Nat.zero_le _, r03.out⟩
    case round =>
      rename World => wr
      obtain ⟨k, sv, F, rfl, hk, hr⟩ := hrel
      have HR := Lib.hid hr
      have hwr := hr.fr.size
      have BR := Lib.hid (B3.out.trans (hr.fr.below (B := w.heap.size) (fun b h => by omega) B3.out.size))
      have hBr : B ≤ wr.heap.size := Nat.le_trans hBW hwr
      have lg0 := hr.box0.lt
      clear hr
      by_cases hlt : k < m.decls.length
      · obtain ⟨d, hd⟩ : ∃ d, m.decls[k] = d := ⟨_, rfl⟩
        obtain ⟨hfd, bd, od, na, nc, sa, sc, hda, hbd, htd, e0, e1, e2, e3, e4, e5, e6, e7, e8⟩ := (HM.out.decls.under (BR.out.mono hB)).elem hlt hd
        obtain rfl := hda
        have hltI : (k : Int) < (m.decls.length : Int) := by omega
        have hk0 : (0 : Int) ≤ (k : Int) := by omega
        have lbd : bd < wr.heap.size := by omega
        have HFW := Lib.hid (HFD.out d (by rw [← hd]; exact List.getElem_mem hlt))
        have HD := Lib.hid hd
        have HFT := Lib.hid hfd
        have HT := Lib.hid htd
        clear hd htd hfd
        go_upto_region 8 with fail
        obtain ⟨dd, hbx, hzx⟩ := laidN wr #[.int .i64 d.kind, .string d.name, .int .i64 d.ty.kind, .string d.ty.pkg, .int .i64 d.ty.major, .string d.ty.mod, .string d.ty.name, .slice na d.ty.names.length nc, .slice sa d.ty.subs.length sc] 55
        generalize hX1 : wr.alloc (.cells #[.int .i64 d.kind, .string d.name, .int .i64 d.ty.kind, .string d.ty.pkg, .int .i64 d.ty.major, .string d.ty.mod, .string d.ty.name, .slice na d.ty.names.length nc, .slice sa d.ty.subs.length sc] 55) = X1 at dd hbx hzx ⊢
        clear hX1
        have e0 := (hbx.cell (p := ⟨bd, od + k * 9, none⟩) lbd).trans e0
        have e1 := (hbx.cell (p := ⟨bd, od + k * 9 + 1, none⟩) lbd).trans e1
        have e2 := (hbx.cell (p := ⟨bd, od + k * 9 + 2, none⟩) lbd).trans e2
        have e3 := (hbx.cell (p := ⟨bd, od + k * 9 + 3, none⟩) lbd).trans e3
        have e4 := (hbx.cell (p := ⟨bd, od + k * 9 + 4, none⟩) lbd).trans e4
        have e5 := (hbx.cell (p := ⟨bd, od + k * 9 + 5, none⟩) lbd).trans e5
        have e6 := (hbx.cell (p := ⟨bd, od + k * 9 + 6, none⟩) lbd).trans e6
        have e7 := (hbx.cell (p := ⟨bd, od + k * 9 + 7, none⟩) lbd).trans e7
        have e8 := (hbx.cell (p := ⟨bd, od + k * 9 + 8, none⟩) lbd).trans e8
        have lbd1 := Nat.lt_of_lt_of_le lbd hbx.size
        have HBX := Lib.hid hbx
        have hcp := copy_c d.ty _ B X1 (HT.out.under (hbx.mono hBr)) (Nat.le_trans hBr hbx.size) HFW.out
        simp only [tyCells] at hcp
        have HCP := Lib.hid hcp
        have DD := Lib.hid dd
        clear hcp dd hbx
        go_upto_region 9 with (go_at_call 21; refine HCP.out.mono ?_; rintro e w2 ⟨⟨cr, rfl, htm⟩, hb2⟩; obtain ⟨na3, nc3, sa3, sc3, f3, rfl, -⟩ := htm.inv; have HTM := Lib.hid htm; have HB2 := Lib.hid hb2; have dd2 := DD.out.under hb2 DD.out.lt; have DD2 := Lib.hid dd2; obtain ⟨q0, q1, q2, q3, q4, q5, q6, q7, q8⟩ := cellsT9 dd2; have v2 := dd2.free 2; have v3 := dd2.free 3; have v4 := dd2.free 4; have v5 := dd2.free 5; have v6 := dd2.free 6; have v7 := dd2.free 7; have v8 := dd2.free 8; have lgd := dd2.lt; clear htm hb2 dd2; simp only [tyCells])
        clear e0 e1 e2 e3 e4 e5 e6 e7 e8
        clear e0 e1 e2 e3 e4 e5 e6 e7 e8 q0 q1 q2 q3 q4 q5 q6 q7 q8 v2 v3 v4 v5 v6 v7 v8 lgd HCP
        have dd2 := DD2.out
        have dn : Blk (((((((w2.setCell ⟨wr.heap.size, 2, none⟩ (.int .i64 d.ty.kind)).setCell ⟨wr.heap.size, 3, none⟩ (.string d.ty.pkg)).setCell ⟨wr.heap.size, 4, none⟩ (.int .i64 d.ty.major)).setCell ⟨wr.heap.size, 5, none⟩ (.string d.ty.mod)).setCell ⟨wr.heap.size, 6, none⟩ (.string d.ty.name)).setCell ⟨wr.heap.size, 7, none⟩ (.slice na3 d.ty.names.length nc3)).setCell ⟨wr.heap.size, 8, none⟩ (.slice sa3 d.ty.subs.length sc3)) wr.heap.size #[.int .i64 d.kind, .string d.name, .int .i64 d.ty.kind, .string d.ty.pkg, .int .i64 d.ty.major, .string d.ty.mod, .string d.ty.name, .slice na3 d.ty.names.length nc3, .slice sa3 d.ty.subs.length sc3] 55 := by have := (((((((dd2.set 2 (.int .i64 d.ty.kind)).set 3 (.string d.ty.pkg)).set 4 (.int .i64 d.ty.major)).set 5 (.string d.ty.mod)).set 6 (.string d.ty.name)).set 7 (.slice na3 d.ty.names.length nc3)).set 8 (.slice sa3 d.ty.subs.length sc3)); simpa using this
        have hst : ∀ b, b ≠ wr.heap.size → ((((((((w2.setCell ⟨wr.heap.size, 2, none⟩ (.int .i64 d.ty.kind)).setCell ⟨wr.heap.size, 3, none⟩ (.string d.ty.pkg)).setCell ⟨wr.heap.size, 4, none⟩ (.int .i64 d.ty.major)).setCell ⟨wr.heap.size, 5, none⟩ (.string d.ty.mod)).setCell ⟨wr.heap.size, 6, none⟩ (.string d.ty.name)).setCell ⟨wr.heap.size, 7, none⟩ (.slice na3 d.ty.names.length nc3)).setCell ⟨wr.heap.size, 8, none⟩ (.slice sa3 d.ty.subs.length sc3))).heap[b]? = w2.heap[b]? := fun b hbn => ((Below.heap_setCell _ ⟨wr.heap.size, 8, none⟩ _ b hbn).trans ((Below.heap_setCell _ ⟨wr.heap.size, 7, none⟩ _ b hbn).trans ((Below.heap_setCell _ ⟨wr.heap.size, 6, none⟩ _ b hbn).trans ((Below.heap_setCell _ ⟨wr.heap.size, 5, none⟩ _ b hbn).trans ((Below.heap_setCell _ ⟨wr.heap.size, 4, none⟩ _ b hbn).trans ((Below.heap_setCell _ ⟨wr.heap.size, 3, none⟩ _ b hbn).trans (Below.heap_setCell _ ⟨wr.heap.size, 2, none⟩ _ b hbn)))))))
        have hsz : ((((((((w2.setCell ⟨wr.heap.size, 2, none⟩ (.int .i64 d.ty.kind)).setCell ⟨wr.heap.size, 3, none⟩ (.string d.ty.pkg)).setCell ⟨wr.heap.size, 4, none⟩ (.int .i64 d.ty.major)).setCell ⟨wr.heap.size, 5, none⟩ (.string d.ty.mod)).setCell ⟨wr.heap.size, 6, none⟩ (.string d.ty.name)).setCell ⟨wr.heap.size, 7, none⟩ (.slice na3 d.ty.names.length nc3)).setCell ⟨wr.heap.size, 8, none⟩ (.slice sa3 d.ty.subs.length sc3))).heap.size = w2.heap.size := by simp [World.setCell]
        have hob : Below 0 w2 (((((((w2.setCell ⟨wr.heap.size, 2, none⟩ (.int .i64 d.ty.kind)).setCell ⟨wr.heap.size, 3, none⟩ (.string d.ty.pkg)).setCell ⟨wr.heap.size, 4, none⟩ (.int .i64 d.ty.major)).setCell ⟨wr.heap.size, 5, none⟩ (.string d.ty.mod)).setCell ⟨wr.heap.size, 6, none⟩ (.string d.ty.name)).setCell ⟨wr.heap.size, 7, none⟩ (.slice na3 d.ty.names.length nc3)).setCell ⟨wr.heap.size, 8, none⟩ (.slice sa3 d.ty.subs.length sc3)) := ((((((((Below.refl 0 w2).setCell (p := ⟨wr.heap.size, 2, none⟩) (Nat.zero_le _) (.int .i64 d.ty.kind)).setCell (p := ⟨wr.heap.size, 3, none⟩) (Nat.zero_le _) (.string d.ty.pkg)).setCell (p := ⟨wr.heap.size, 4, none⟩) (Nat.zero_le _) (.int .i64 d.ty.major)).setCell (p := ⟨wr.heap.size, 5, none⟩) (Nat.zero_le _) (.string d.ty.mod)).setCell (p := ⟨wr.heap.size, 6, none⟩) (Nat.zero_le _) (.string d.ty.name)).setCell (p := ⟨wr.heap.size, 7, none⟩) (Nat.zero_le _) (.slice na3 d.ty.names.length nc3)).setCell (p := ⟨wr.heap.size, 8, none⟩) (Nat.zero_le _) (.slice sa3 d.ty.subs.length sc3))
        have hot : ((((((((w2.setCell ⟨wr.heap.size, 2, none⟩ (.int .i64 d.ty.kind)).setCell ⟨wr.heap.size, 3, none⟩ (.string d.ty.pkg)).setCell ⟨wr.heap.size, 4, none⟩ (.int .i64 d.ty.major)).setCell ⟨wr.heap.size, 5, none⟩ (.string d.ty.mod)).setCell ⟨wr.heap.size, 6, none⟩ (.string d.ty.name)).setCell ⟨wr.heap.size, 7, none⟩ (.slice na3 d.ty.names.length nc3)).setCell ⟨wr.heap.size, 8, none⟩ (.slice sa3 d.ty.subs.length sc3))).os = w2.os ∧ ((((((((w2.setCell ⟨wr.heap.size, 2, none⟩ (.int .i64 d.ty.kind)).setCell ⟨wr.heap.size, 3, none⟩ (.string d.ty.pkg)).setCell ⟨wr.heap.size, 4, none⟩ (.int .i64 d.ty.major)).setCell ⟨wr.heap.size, 5, none⟩ (.string d.ty.mod)).setCell ⟨wr.heap.size, 6, none⟩ (.string d.ty.name)).setCell ⟨wr.heap.size, 7, none⟩ (.slice na3 d.ty.names.length nc3)).setCell ⟨wr.heap.size, 8, none⟩ (.slice sa3 d.ty.subs.length sc3))).tape = w2.tape ∧ ((((((((w2.setCell ⟨wr.heap.size, 2, none⟩ (.int .i64 d.ty.kind)).setCell ⟨wr.heap.size, 3, none⟩ (.string d.ty.pkg)).setCell ⟨wr.heap.size, 4, none⟩ (.int .i64 d.ty.major)).setCell ⟨wr.heap.size, 5, none⟩ (.string d.ty.mod)).setCell ⟨wr.heap.size, 6, none⟩ (.string d.ty.name)).setCell ⟨wr.heap.size, 7, none⟩ (.slice na3 d.ty.names.length nc3)).setCell ⟨wr.heap.size, 8, none⟩ (.slice sa3 d.ty.subs.length sc3))).output = w2.output := ⟨hob.os, hob.tape, hob.output⟩
        clear hob
        generalize (((((((w2.setCell ⟨wr.heap.size, 2, none⟩ (.int .i64 d.ty.kind)).setCell ⟨wr.heap.size, 3, none⟩ (.string d.ty.pkg)).setCell ⟨wr.heap.size, 4, none⟩ (.int .i64 d.ty.major)).setCell ⟨wr.heap.size, 5, none⟩ (.string d.ty.mod)).setCell ⟨wr.heap.size, 6, none⟩ (.string d.ty.name)).setCell ⟨wr.heap.size, 7, none⟩ (.slice na3 d.ty.names.length nc3)).setCell ⟨wr.heap.size, 8, none⟩ (.slice sa3 d.ty.subs.length sc3)) = w3 at dn hst hsz hot ⊢
        have HOT := Lib.hid hot
        clear dd2 hot
        have hs2 := HB2.out.size
        have hgS0 : ∀ g, sv.ownBlock = some g → W3.heap.size ≤ g ∧ g < wr.heap.size := fun g hg => owns_lt HR.out.row.row hg
        have hk3 : ∀ b, b < wr.heap.size → w3.heap[b]? = wr.heap[b]? := fun b hb => (hst b (by omega)).trans ((HB2.out.block b (by omega)).trans (HBX.out.block b hb))
        have hkX : ∀ b, b < wr.heap.size → (w3.alloc (.cells #[.int .i64 d.kind, .string d.name, .int .i64 d.ty.kind, .string d.ty.pkg, .int .i64 d.ty.major, .string d.ty.mod, .string d.ty.name, .slice na3 d.ty.names.length nc3, .slice sa3 d.ty.subs.length sc3] 55)).heap[b]? = wr.heap[b]? := fun b hb => (heap_alloc_old w3 _ (by omega)).trans (hk3 b hb)
        have hszX : (w3.alloc (.cells #[.int .i64 d.kind, .string d.name, .int .i64 d.ty.kind, .string d.ty.pkg, .int .i64 d.ty.major, .string d.ty.mod, .string d.ty.name, .slice na3 d.ty.names.length nc3, .slice sa3 d.ty.subs.length sc3] 55)).heap.size = w3.heap.size + 1 := by simp
        have RX := Lib.hid (HR.out.row.keep (w' := w3.alloc (.cells #[.int .i64 d.kind, .string d.name, .int .i64 d.ty.kind, .string d.ty.pkg, .int .i64 d.ty.major, .string d.ty.mod, .string d.ty.name, .slice na3 d.ty.names.length nc3, .slice sa3 d.ty.subs.length sc3] 55)) (by omega) fun b hb _ => hkX b hb)
        have hdm : DclM (w3.alloc (.cells #[.int .i64 d.kind, .string d.name, .int .i64 d.ty.kind, .string d.ty.pkg, .int .i64 d.ty.major, .string d.ty.mod, .string d.ty.name, .slice na3 d.ty.names.length nc3, .slice sa3 d.ty.subs.length sc3] 55)) (fun b => W3.heap.size ≤ b ∧ b < (w3.alloc (.cells #[.int .i64 d.kind, .string d.name, .int .i64 d.ty.kind, .string d.ty.pkg, .int .i64 d.ty.major, .string d.ty.mod, .string d.ty.name, .slice na3 d.ty.names.length nc3, .slice sa3 d.ty.subs.length sc3] 55)).heap.size ∧ sv.ownBlock ≠ some b) d #[.int .i64 d.kind, .string d.name, .int .i64 d.ty.kind, .string d.ty.pkg, .int .i64 d.ty.major, .string d.ty.mod, .string d.ty.name, .slice na3 d.ty.names.length nc3, .slice sa3 d.ty.subs.length sc3] := by
          refine ⟨HFT.out, na3, nc3, sa3, sc3, rfl, HTM.out.move (fun b hb => ⟨by have := hb.1; omega, by have := hb.2; omega, fun e => by have := (hgS0 b e).2; have := hb.1; omega⟩) fun p hp => World.cell?_of_block ?_⟩
          exact (heap_alloc_old w3 _ (by have := hp.2; omega)).trans (hst _ (by have := hp.1; omega))
        have b0 : Blk w3 w.heap.size #[.string m.name, iv, sv] 25 := (hk3 _ lg0).trans HR.out.box0
        have b1 : Blk w3 (w.heap.size + 1) #[.string { data := #[] }, .slice none 0 0, .slice none 0 0] 25 := (hk3 _ HR.out.box1.lt).trans HR.out.box1
        obtain ⟨x0, x1, x2⟩ := cellsT3 b0
        have y2 := b0.free 2
        have lg3 := b0.lt
        obtain ⟨q0, q1, q2, q3, q4, q5, q6, q7, q8⟩ := cellsT9 dn
        have lgd := dn.lt
        have hlen : (m.decls.take k).length = k := by rw [List.length_take]; omega
        have HLEN := Lib.hid hlen
        have B0X := Lib.hid (b0.alloc (.cells #[.int .i64 d.kind, .string d.name, .int .i64 d.ty.kind, .string d.ty.pkg, .int .i64 d.ty.major, .string d.ty.mod, .string d.ty.name, .slice na3 d.ty.names.length nc3, .slice sa3 d.ty.subs.length sc3] 55))
        have B1X := Lib.hid (b1.alloc (.cells #[.int .i64 d.kind, .string d.name, .int .i64 d.ty.kind, .string d.ty.pkg, .int .i64 d.ty.major, .string d.ty.mod, .string d.ty.name, .slice na3 d.ty.names.length nc3, .slice sa3 d.ty.subs.length sc3] 55))
        have HDM := Lib.hid hdm
        have HKX := Lib.hid hkX
        have HSZ := Lib.hid hszX
        have HST3 := Lib.hid (show wr.heap.size + 1 ≤ w3.heap.size by omega)
        have HGS := Lib.hid hgS0
        have hnX : (w3.alloc (.cells #[.int .i64 d.kind, .string d.name, .int .i64 d.ty.kind, .string d.ty.pkg, .int .i64 d.ty.major, .string d.ty.mod, .string d.ty.name, .slice na3 d.ty.names.length nc3, .slice sa3 d.ty.subs.length sc3] 55)).heap[w3.heap.size]? = some (.cells #[.int .i64 d.kind, .string d.name, .int .i64 d.ty.kind, .string d.ty.pkg, .int .i64 d.ty.major, .string d.ty.mod, .string d.ty.name, .slice na3 d.ty.names.length nc3, .slice sa3 d.ty.subs.length sc3] 55 (0, 0)) := heap_alloc_new w3 _
        have HNX := Lib.hid hnX
        have hone : ∀ u ∈ (#[.int .i64 d.kind, .string d.name, .int .i64 d.ty.kind, .string d.ty.pkg, .int .i64 d.ty.major, .string d.ty.mod, .string d.ty.name, .slice na3 d.ty.names.length nc3, .slice sa3 d.ty.subs.length sc3] : Array Value).toList, u.oneCell' = true := by simp [Value.oneCell']
        have hw3sz : W3.heap.size ≤ w3.heap.size := by omega
        clear b0 b1 dn hst hdm hkX hszX hk3 hnX hgS0 hlen hsz hs2
        go_upto_region 6 with (at_builtin; go_loud (refine wpList_append_lies _ rfl _ _ 23 rfl W3.heap.size 55 i0 (.agg #[.int .i64 0, .string { data := #[] }, .int .i64 0, .string { data := #[] }, .int .i64 0, .string { data := #[] }, .string { data := #[] }, .slice none 0 0, .slice none 0 0]) 9 136 Tryz.underlying23 hi hz0 hz1 hz2 rfl (by decide) sv (m.decls.take k).length (F.flatMap (·.toList)) rfl RX.out.row ⟨w3.heap.size, 0, none⟩ 1 1 (#[.int .i64 d.kind, .string d.name, .int .i64 d.ty.kind, .string d.ty.pkg, .int .i64 d.ty.major, .string d.ty.mod, .string d.ty.name, .slice na3 d.ty.names.length nc3, .slice sa3 d.ty.subs.length sc3] : Array Value).toList rfl rfl (World.news_of_block HNX.out) hone (by omega) (by rw [HLEN.out]; unfold maxLen; omega) (by rw [HLEN.out]; omega) (by rw [HSZ.out]; omega) _ rfl ?_; intro gS cS x4 hownS hgS hatS hltS; have hs4 := hgS.size; rw [HSZ.out] at hs4; have hb0 : Blk x4 w.heap.size #[.string m.name, iv, sv] 25 := (hgS.block _ B0X.out.lt (fun e => by have := (HGS.out _ e.symm).1; omega)).trans B0X.out; have hb1 : Blk x4 (w.heap.size + 1) #[.string { data := #[] }, .slice none 0 0, .slice none 0 0] 25 := (hgS.block _ B1X.out.lt (fun e => by have := (HGS.out _ e.symm).1; omega)).trans B1X.out; have HB0 := Lib.hid hb0; have HB1 := Lib.hid hb1; have HOW := Lib.hid hownS; have HGR := Lib.hid hgS; have HAT := Lib.hid hatS; have x2' := hb0.cell 2; have y2' := hb0.free 2; have l2' := hb0.lt; simp at x2'; clear hb0 hb1 hownS hgS hatS))
        clear x2' y2' l2' x0 x1 x2 y2 lg3 q0 q1 q2 q3 q4 q5 q6 q7 q8 lgd
        have hpush := RowD.push HR.out.row (x3 := w3.alloc (.cells #[.int .i64 d.kind, .string d.name, .int .i64 d.ty.kind, .string d.ty.pkg, .int .i64 d.ty.major, .string d.ty.mod, .string d.ty.name, .slice na3 d.ty.names.length nc3, .slice sa3 d.ty.subs.length sc3] 55)) (by rw [HSZ.out]; have := HST3.out; omega) (fun b hb _ => HKX.out b hb) HDM.out HGR.out HOW.out HAT.out
        have htk : m.decls.take k ++ [d] = m.decls.take (k + 1) := by rw [List.take_succ_eq_append_getElem hlt, HD.out]
        have hgn : ∀ b, (Value.slice (some ⟨gS, 0, none⟩) ((m.decls.take k).length + 1) cS).ownBlock = some b → W3.heap.size ≤ b := fun b hb => (owns_lt hpush.row hb).1
        have hnx : CmR m W3 (x4.setCell ⟨w.heap.size, 2, none⟩ (.slice (some ⟨gS, 0, none⟩) ((m.decls.take k).length + 1) cS)) w.heap.size (w.heap.size + 1) iv (.slice (some ⟨gS, 0, none⟩) ((m.decls.take k).length + 1) cS) (F ++ [#[.int .i64 d.kind, .string d.name, .int .i64 d.ty.kind, .string d.ty.pkg, .int .i64 d.ty.major, .string d.ty.mod, .string d.ty.name, .slice na3 d.ty.names.length nc3, .slice sa3 d.ty.subs.length sc3]]) (k + 1) := by
          refine ⟨by have := HB0.out.set 2 (.slice (some ⟨gS, 0, none⟩) ((m.decls.take k).length + 1) cS); simpa using this, HB1.out.far _ _ (by show w.heap.size + 1 ≠ w.heap.size; omega), ?_, ?_⟩
          · rw [← htk]
            refine hpush.keep (by simp [World.setCell]) fun b hb h => Below.heap_setCell x4 ⟨w.heap.size, 2, none⟩ _ b ?_
            show b ≠ w.heap.size
            rcases h with h | h
            · omega
            · have := hgn b h; omega
          · have hsX := HST3.out
            have hf1 : Fr (fun b => b = w.heap.size) W3 (w3.alloc (.cells #[.int .i64 d.kind, .string d.name, .int .i64 d.ty.kind, .string d.ty.pkg, .int .i64 d.ty.major, .string d.ty.mod, .string d.ty.name, .slice na3 d.ty.names.length nc3, .slice sa3 d.ty.subs.length sc3] 55)) := by
              have : Fr (fun b => b = w.heap.size) wr (w3.alloc (.cells #[.int .i64 d.kind, .string d.name, .int .i64 d.ty.kind, .string d.ty.pkg, .int .i64 d.ty.major, .string d.ty.mod, .string d.ty.name, .slice na3 d.ty.names.length nc3, .slice sa3 d.ty.subs.length sc3] 55)) := by
                refine ⟨?_, ?_, ?_, by rw [HSZ.out]; omega, fun b hb _ => HKX.out b hb⟩
                · exact HOT.out.1.trans (HB2.out.os.trans HBX.out.os)
                · exact HOT.out.2.1.trans (HB2.out.tape.trans HBX.out.tape)
                · exact HOT.out.2.2.trans (HB2.out.output.trans HBX.out.output)
              exact HR.out.fr.trans this (fun b h => .inl h)
            have hf2 : Fr (fun b => b = w.heap.size) W3 x4 := ⟨HGR.out.os.trans hf1.os, HGR.out.tape.trans hf1.tape, HGR.out.output.trans hf1.output, Nat.le_trans hf1.size HGR.out.size, fun b hb hn => (HGR.out.block b (Nat.lt_of_lt_of_le hb hf1.size) (fun e => by have := (HGS.out b e.symm).1; omega)).trans (hf1.block b hb hn)⟩
            exact ⟨hf2.os, hf2.tape, hf2.output, by have := hf2.size; simp [World.setCell]; omega, fun b hb hn => (Below.heap_setCell x4 ⟨w.heap.size, 2, none⟩ _ b hn).trans (hf2.block b hb hn)⟩
        rw [HLEN.out] at hnx
        have HNXT := Lib.hid hnx
        generalize x4.setCell ⟨w.heap.size, 2, none⟩ (.slice (some ⟨gS, 0, none⟩) (k + 1) cS) = x5 at HNXT ⊢
        clear hnx hpush hgn htk
        go_wp2
        first
          | exact ⟨⟨k + 1, _, _, by go_num, by omega, HNXT.out⟩, by simp [intOf]; omega⟩
          | (go_roundw
             case rel => exact ⟨k + 1, _, _, by go_num, by omega, HNXT.out⟩
             case measure => simp [intOf]; omega)
      · obtain rfl : k = m.decls.length := by omega
        have hltI : ¬ (m.decls.length : Int) < (m.decls.length : Int) := by omega
        have hrow := HR.out.row
        rw [List.take_length] at hrow
        have hfi : wr.ownsRow (w.heap.size + 1 + 1) 72 4 iv m.imps.length (flatI m.imps) := owns_keep O3.out fun g hg => HR.out.fr.block g (HG2.out g hg).2 (by have := (HG2.out g hg).1; show g ≠ w.heap.size; omega)
        obtain ⟨ia', ic', rfl, -, -⟩ := flatI_at hfi (impsFits' HM.out.imps)
        obtain ⟨da', dc', rfl, -, -⟩ := hrow.at
        have b0 := HR.out.box0
        have b1 := HR.out.box1
        obtain ⟨x0, x1, x2⟩ := cellsT3 b0
        obtain ⟨u0, u1, u2⟩ := cellsT3 b1
        have y0 := b1.free 0
        have y1 := b1.free 1
        have y2 := b1.free 2
        have lg1 := b1.lt
        have HRW := Lib.hid hrow
        have HFI := Lib.hid hfi
        have HB1 := Lib.hid b1
        clear hrow hfi b0 b1
        go_wp2_with fail
        have bf : Blk (((wr.setCell ⟨w.heap.size + 1, 0, none⟩ (.string m.name)).setCell ⟨w.heap.size + 1, 1, none⟩ (.slice ia' m.imps.length ic')).setCell ⟨w.heap.size + 1, 2, none⟩ (.slice da' m.decls.length dc')) (w.heap.size + 1) #[.string m.name, .slice ia' m.imps.length ic', .slice da' m.decls.length dc'] 25 := by
          have := ((HB1.out.set 0 (.string m.name)).set 1 (.slice ia' m.imps.length ic')).set 2 (.slice da' m.decls.length dc'); simpa using this
        have hst : ∀ b, b ≠ w.heap.size + 1 → (((wr.setCell ⟨w.heap.size + 1, 0, none⟩ (.string m.name)).setCell ⟨w.heap.size + 1, 1, none⟩ (.slice ia' m.imps.length ic')).setCell ⟨w.heap.size + 1, 2, none⟩ (.slice da' m.decls.length dc')).heap[b]? = wr.heap[b]? := fun b hbn => (Below.heap_setCell _ ⟨w.heap.size + 1, 2, none⟩ _ b hbn).trans ((Below.heap_setCell _ ⟨w.heap.size + 1, 1, none⟩ _ b hbn).trans (Below.heap_setCell _ ⟨w.heap.size + 1, 0, none⟩ _ b hbn))
        have hbb : Below w.heap.size w (((wr.setCell ⟨w.heap.size + 1, 0, none⟩ (.string m.name)).setCell ⟨w.heap.size + 1, 1, none⟩ (.slice ia' m.imps.length ic')).setCell ⟨w.heap.size + 1, 2, none⟩ (.slice da' m.decls.length dc')) := ((BR.out.setCell (p := ⟨w.heap.size + 1, 0, none⟩) (by show w.heap.size ≤ w.heap.size + 1; omega) _).setCell (p := ⟨w.heap.size + 1, 1, none⟩) (by show w.heap.size ≤ w.heap.size + 1; omega) _).setCell (p := ⟨w.heap.size + 1, 2, none⟩) (by show w.heap.size ≤ w.heap.size + 1; omega) _
        have hsz : (((wr.setCell ⟨w.heap.size + 1, 0, none⟩ (.string m.name)).setCell ⟨w.heap.size + 1, 1, none⟩ (.slice ia' m.imps.length ic')).setCell ⟨w.heap.size + 1, 2, none⟩ (.slice da' m.decls.length dc')).heap.size = wr.heap.size := by simp [World.setCell]
        generalize ((wr.setCell ⟨w.heap.size + 1, 0, none⟩ (.string m.name)).setCell ⟨w.heap.size + 1, 1, none⟩ (.slice ia' m.imps.length ic')).setCell ⟨w.heap.size + 1, 2, none⟩ (.slice da' m.decls.length dc') = Wf at bf hst hbb hsz ⊢
        obtain ⟨f0, f1, f2⟩ := cellsT3 bf
        refine bodyPost_ret (by simp [results, Tryz.results9, go_sem, f0, f1, f2, bf.lt]; try rfl) rfl ?_
        have hrw := HRW.out.keep (w' := Wf) (by omega) fun b hb h => hst b (by
          rcases h with h | h
          · omega
          · have := (owns_lt HRW.out.row h).1; omega)
        have hfi2 := owns_keep (w' := Wf) HFI.out fun g hg => hst g (by have := (owns_lt HFI.out hg).1; omega)
        obtain ⟨A1, c1, e1, hc1, hi1⟩ := flatI_at hfi2 (impsFits' HM.out.imps)
        obtain ⟨A2, c2, e2, hc2, hd2⟩ := hrw.at
        cases e1
        cases e2
        exact ⟨ia', ic', da', dc', rfl, ⟨HM.out.name, hi1, hd2, HM.out.nImps, HM.out.nDecls, hc1, hc2⟩, hbb⟩
end Go.Proofs.YtjeldfipipkfiaaGreat
