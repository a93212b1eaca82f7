/- The contract of merlonref08.Expand, whatever the type is. -/
import Derived.Test.YtjeldfipipkfiaaGreatDoorRfExA
namespace Go.Proofs.YtjeldfipipkfiaaGreatDoor
open Go.RowKit
set_option linter.unusedSimpArgs false
set_option linter.unusedVariables false
structure RxRel (w wr : World) (G : Nat) (E : Env) (ia : Option Addr) (ic : Nat) (da : Option Addr) (dc : Nat) (ea : Option Addr) (ec : Nat) (U : Ty) (TC : Array Value) (A1 : Option Addr) (c1 : Nat) (sv : Value) (ys : List Ty) (F : List (Array Value)) (k : Nat) : Prop where
  below : Below w.heap.size w wr
  gl : w.heap.size + 3 ≤ G
  size : G + 1 ≤ wr.heap.size
  bm : Blk wr w.heap.size #[.string E.m.name, .slice ia E.m.imps.length ic, .slice da E.m.decls.length dc] 25
  bt : Blk wr (w.heap.size + 1) TC 29
  res : Blk wr (w.heap.size + 1 + 1) #[.int .i64 0, .string { data := #[] }, .int .i64 0, .string { data := #[] }, .string { data := #[] }, .slice none 0 0, .slice none 0 0] 29
  box : Blk wr G #[.int .i64 U.kind, .string U.pkg, .int .i64 U.major, .string U.mod, .string U.name, .slice A1 U.names.length c1, sv] 29
  cap1 : U.names.length ≤ c1
  names : StrsM wr (InM wr 0 (G + 1) (.slice none 0 0) sv) A1 U.names
  len : ys.length = k
  rows : Row1 wr 0 (G + 1) sv ys F
theorem RxRel.next {w wr w2 x3 x4 : World} {G : Nat} {E : Env} {ia : Option Addr} {ic : Nat} {da : Option Addr} {dc : Nat} {ea : Option Addr} {ec : Nat} {U y : Ty} {TC c : Array Value} {A1 : Option Addr} {c1 k gS cS : Nat} {sv : Value} {ys : List Ty} {F : List (Array Value)} (h : RxRel w wr G E ia ic da dc ea ec U TC A1 c1 sv ys F k) (hb : Below wr.heap.size wr w2) (ht : TyM w2 (Fresh wr w2) y c)
    (hx3 : Below w2.heap.size w2 x3) (hg2 : x3.grownBy x4 sv.ownBlock) (hS : x4.ownsRow (G + 1) 29 7 (.slice (some ⟨gS, 0, none⟩) (k + 1) cS) (k + 1) (F.flatMap (·.toList) ++ c.toList)) (hSat : sv.ownBlock = some gS ∨ w2.heap.size ≤ gS) :
    RxRel w (x4.setCell ⟨G, 6, none⟩ (.slice (some ⟨gS, 0, none⟩) (k + 1) cS)) G E ia ic da dc ea ec U TC A1 c1 (.slice (some ⟨gS, 0, none⟩) (k + 1) cS) (ys ++ [y]) (F ++ [c]) (k + 1) := by
  have s0 := h.size
  have sg := h.gl
  have s1 := hb.size
  have s3 := hx3.size
  have s4 := hg2.size
  have hrw := h.rows.under hb (Nat.zero_le _)
  have hown2 : ∀ g, sv.ownBlock = some g → G + 1 ≤ g ∧ g < wr.heap.size := fun g hg => owns_lt h.rows.row hg
  have hgS := owns_lt hS (show (Value.slice (some ⟨gS, 0, none⟩) (k + 1) cS).ownBlock = some gS from rfl)
  have key : ∀ bb, bb < wr.heap.size → sv.ownBlock ≠ some bb → x4.heap[bb]? = wr.heap[bb]? := by
    intro bb hbb hn
    rw [hg2.block bb (by omega) (fun e => hn e.symm), hx3.block bb (by omega), hb.block bb hbb]
  have hno : ∀ bb, bb ≤ G → sv.ownBlock ≠ some bb := fun bb hbb e => by have := hown2 _ e; omega
  have hB4 : Below w.heap.size w x4 := by
    refine ⟨?_, ?_, ?_, by omega, fun bb hbb => (key bb (by omega) (hno bb (by omega))).trans (h.below.block bb hbb)⟩
    · rw [hg2.os, hx3.os, hb.os, h.below.os]
    · rw [hg2.tape, hx3.tape, hb.tape, h.below.tape]
    · rw [hg2.output, hx3.output, hb.output, h.below.output]
  have hsz : (x4.setCell ⟨G, 6, none⟩ (.slice (some ⟨gS, 0, none⟩) (k + 1) cS)).heap.size = x4.heap.size := by simp [World.setCell]
  have hfar : ∀ bb, bb ≠ G → (x4.setCell ⟨G, 6, none⟩ (.slice (some ⟨gS, 0, none⟩) (k + 1) cS)).heap[bb]? = x4.heap[bb]? := fun bb hbb => Below.heap_setCell _ _ _ _ hbb
  have mv : ∀ {b C T}, b < G → Blk wr b C T → Blk (x4.setCell ⟨G, 6, none⟩ (.slice (some ⟨gS, 0, none⟩) (k + 1) cS)) b C T := fun hbG hblk => (hfar _ (Nat.ne_of_lt hbG)).trans ((key _ (by omega) (hno _ (by omega))).trans hblk)
  refine ⟨hB4.setCell (p := ⟨G, 6, none⟩) (by show w.heap.size ≤ G; omega) _, sg, by rw [hsz]; omega, mv (by omega) h.bm, mv (by omega) h.bt, mv (by omega) h.res, ?_, h.cap1, ?_, by rw [List.length_append, h.len]; rfl, ?_⟩
  · have := (show Blk x4 G _ _ from (key _ (by omega) (hno _ (Nat.le_refl _))).trans h.box).set 6 (.slice (some ⟨gS, 0, none⟩) (k + 1) cS)
    simpa using this
  · refine h.names.move (fun b hM => ?_) (fun p hM => ?_)
    · rcases hM with hM | ⟨m1, m2, m3, m4⟩
      · exact .inl hM
      · refine .inr ⟨m1, by rw [hsz]; omega, m3, fun e => ?_⟩
        simp [Value.ownBlock] at e
        subst e
        rcases hSat with hSat | hSat
        · exact m4 hSat
        · omega
    · rcases hM with hM | ⟨m1, m2, m3, m4⟩
      · omega
      · exact World.cell?_of_block (w := wr) ((hfar _ (by omega)).trans (key _ m2 m4))
  · have hlen := h.len
    have hp := hrw.push (x5 := x4.setCell ⟨G, 6, none⟩ (.slice (some ⟨gS, 0, none⟩) (k + 1) cS)) (gS := gS) (cS := cS) (t := y) (c := c) (Nat.zero_le _) (by omega) hx3 hg2 (fun bb hbb => hfar bb (by omega)) hsz (by rw [hlen]; exact hS) hSat ht.size (ht.mono fun b hM => .inr ⟨by have := hM.1; omega, hM.2, fun e => by simp [Value.ownBlock] at e, fun e => by have := hown2 _ e; have := hM.1; omega⟩)
    rw [hlen] at hp
    exact hp
theorem RxRel.last {w wr : World} {G : Nat} {E : Env} {ia : Option Addr} {ic : Nat} {da : Option Addr} {dc : Nat} {ea : Option Addr} {ec : Nat} {U : Ty} {TC : Array Value} {A1 : Option Addr} {c1 : Nat} {sv : Value} {ys : List Ty} {F : List (Array Value)} (h : RxRel w wr G E ia ic da dc ea ec U TC A1 c1 sv ys F U.subs.length) (hf : Fits U) :
    ∃ sa sc, sv = .slice sa U.subs.length sc ∧ TyM wr (fun b => G + 1 ≤ b ∧ b < wr.heap.size) (.mk U.kind U.pkg U.major U.mod U.name U.names ys) #[.int .i64 U.kind, .string U.pkg, .int .i64 U.major, .string U.mod, .string U.name, .slice A1 U.names.length c1, .slice sa U.subs.length sc] := by
  have hrw := h.rows
  have hlen := h.len
  have hs : ∃ sa sc, sv = .slice sa U.subs.length sc ∧ U.subs.length ≤ sc ∧ RowsM wr (fun b => G + 1 ≤ b ∧ b < wr.heap.size) sa U.subs.length (fun i => F.getD i #[]) := by
    have h1 := hrw.row
    rw [hlen] at h1
    have h2 := h1
    obtain ⟨hl, ⟨hv, h0⟩ | ⟨g, cap, cur, hv, hg, hh, hn, -⟩⟩ := h2
    · exact ⟨none, 0, by rw [hv, h0], by omega, .inl h0⟩
    · subst hv
      refine ⟨_, _, rfl, hn, .inr ⟨g, 0, rfl, ⟨hg, (Array.getElem?_eq_some_iff.1 hh).1⟩, fun i hi j hj => ?_⟩⟩
      have hif : i < F.length := by rw [hrw.len, hlen]; exact hi
      have hF : F.getD i #[] = F[i] := by simp [List.getD, hif]
      dsimp only at hj ⊢
      rw [hF] at hj ⊢
      have h7 := hrw.seven F[i] (List.getElem_mem hif)
      rw [Nat.zero_add, owns_cell h1 (by omega)]
      exact flat_at F hrw.seven i hif j (by omega)
  obtain ⟨sa, sc, rfl, hsc, hsm⟩ := hs
  have hM : ∀ b, InM wr 0 (G + 1) (.slice none 0 0) (.slice sa U.subs.length sc) b → G + 1 ≤ b ∧ b < wr.heap.size := fun b hb => by
    rcases hb with hb | hb
    · omega
    · exact ⟨hb.1, hb.2.1⟩
  refine ⟨sa, sc, rfl, ?_⟩
  have := TyM.mk (w := wr) (M := fun b => G + 1 ≤ b ∧ b < wr.heap.size) (.mk U.kind U.pkg U.major U.mod U.name U.names ys) A1 c1 sa sc (fun i => F.getD i #[]) ⟨hf.kind, hf.major, hf.pkg, hf.mod, hf.name, hf.names, hf.each, by show ys.length ≤ maxLen; rw [hlen]; exact hf.subs⟩ (h.names.move hM fun _ _ => rfl) (by show RowsM _ _ _ ys.length _; rw [hlen]; exact hsm) h.cap1 (by show ys.length ≤ sc; rw [hlen]; exact hsc) (fun i hi => by
    have hi : i < ys.length := hi
    have hif : i < F.length := by rw [hrw.len]; exact hi
    have hF : F.getD i #[] = F[i] := by simp [List.getD, hif]
    rw [hF]
    exact (hrw.each i hi hif).mono hM)
  simp only [tyCells, Ty.kind, Ty.pkg, Ty.major, Ty.mod, Ty.name, Ty.names, Ty.subs, hlen] at this
  cases U
  exact this
theorem rx_start {w W w1 : World} {G : Nat} {E : Env} {ia : Option Addr} {ic : Nat} {da : Option Addr} {dc : Nat} {ea : Option Addr} {ec : Nat} {U : Ty} {TC : Array Value} {n : Nat} {v v5 v6 : Value} (hB : Below w.heap.size w W) (gl : w.heap.size + 3 ≤ G) (hG : W.heap.size = G + 1) (hm : Blk W w.heap.size #[.string E.m.name, .slice ia E.m.imps.length ic, .slice da E.m.decls.length dc] 25) (ht : Blk W (w.heap.size + 1) TC 29) (hr : Blk W (w.heap.size + 1 + 1) #[.int .i64 0, .string { data := #[] }, .int .i64 0, .string { data := #[] }, .string { data := #[] }, .slice none 0 0, .slice none 0 0] 29)
    (hbox : Blk W G #[.int .i64 U.kind, .string U.pkg, .int .i64 U.major, .string U.mod, .string U.name, v5, v6] 29) (hb : Below W.heap.size W w1) (hown : w1.ownsRow W.heap.size 9 1 v n (U.names.map Value.string)) (hn : n = U.names.length) :
    ∃ A1 c1, v = .slice A1 U.names.length c1 ∧ RxRel w ((w1.setCell ⟨G, 5, none⟩ (.slice A1 U.names.length c1)).setCell ⟨G, 6, none⟩ (.slice none 0 0)) G E ia ic da dc ea ec U TC A1 c1 (.slice none 0 0) [] [] 0 := by
  subst hn
  have s1 := hb.size
  have hsz : ((w1.setCell ⟨G, 5, none⟩ v).setCell ⟨G, 6, none⟩ (.slice none 0 0)).heap.size = w1.heap.size := by simp [World.setCell]
  have hbel := ((hB.trans (hb.mono hB.size)).setCell (p := ⟨G, 5, none⟩) (by show w.heap.size ≤ G; omega) v).setCell (p := ⟨G, 6, none⟩) (by show w.heap.size ≤ G; omega) (.slice none 0 0)
  have mv : ∀ {b C T}, b < G → Blk W b C T → Blk ((w1.setCell ⟨G, 5, none⟩ v).setCell ⟨G, 6, none⟩ (.slice none 0 0)) b C T := fun hbG hblk => ((hblk.under hb (by omega)).far ⟨G, 5, none⟩ v (Nat.ne_of_lt hbG)).far ⟨G, 6, none⟩ (.slice none 0 0) (Nat.ne_of_lt hbG)
  have hbx := ((hbox.under hb (by omega)).set 5 v).set 6 (.slice none 0 0)
  have mk : ∀ A1 c1, v = .slice A1 U.names.length c1 → U.names.length ≤ c1 → StrsM w1 (fun b => W.heap.size ≤ b ∧ b < w1.heap.size) A1 U.names → RxRel w ((w1.setCell ⟨G, 5, none⟩ (.slice A1 U.names.length c1)).setCell ⟨G, 6, none⟩ (.slice none 0 0)) G E ia ic da dc ea ec U TC A1 c1 (.slice none 0 0) [] [] 0 := by
    intro A1 c1 hv hc hstr
    subst hv
    refine ⟨hbel, gl, by rw [hsz]; omega, mv (by omega) hm, mv (by omega) ht, mv (by omega) hr, by simpa using hbx, hc, hstr.move (fun b hb => .inr ⟨by omega, by rw [hsz]; exact hb.2, fun e => by simp [Value.ownBlock] at e, fun e => by simp [Value.ownBlock] at e⟩) (fun p hp => ?_), rfl, Row1.nil _ _ _⟩
    rw [World.cell?_setCell_other _ _ _ _ (fun e => by have := hp.1; rw [← e] at this; simp at this; omega), World.cell?_setCell_other _ _ _ _ (fun e => by have := hp.1; rw [← e] at this; simp at this; omega)]
  have h1 := hown
  obtain ⟨-, ⟨hv, h0⟩ | ⟨g, cap, cur, hv, hg, hh, hn, -⟩⟩ := hown
  · have hl : U.names = [] := List.eq_nil_of_length_eq_zero h0
    have hv' : v = .slice none U.names.length 0 := by rw [hv, h0]
    exact ⟨none, 0, hv', mk _ _ hv' (by omega) (.inl hl)⟩
  · refine ⟨_, cap, hv, mk _ _ hv hn ?_⟩
    by_cases h0 : U.names = []
    · exact .inl h0
    · refine .inr ⟨g, 0, rfl, ⟨hg, (Array.getElem?_eq_some_iff.1 hh).1⟩, fun i hi => ?_⟩
      subst hv
      rw [owns_cell h1 (by omega), Nat.zero_add]
      simp [hi]
def RxMeet (w wx : World) (B : Nat) (E : Env) (ia : Option Addr) (ic : Nat) (da : Option Addr) (dc : Nat) (ea : Option Addr) (ec : Nat) (U : Ty) : Prop := ∃ nu mu su ou, TyC w B U (tyCells U nu mu su ou) ∧ Blk wx w.heap.size #[.string E.m.name, .slice ia E.m.imps.length ic, .slice da E.m.decls.length dc] 25 ∧ Blk wx (w.heap.size + 1) (tyCells U nu mu su ou) 29 ∧ Blk wx (w.heap.size + 1 + 1) #[.int .i64 0, .string { data := #[] }, .int .i64 0, .string { data := #[] }, .string { data := #[] }, .slice none 0 0, .slice none 0 0] 29 ∧ Below w.heap.size w wx ∧ w.heap.size + 3 ≤ wx.heap.size
set_option maxRecDepth 100000 in
set_option maxHeartbeats 40000000 in
theorem rex_go {E : Env} {t U : Ty} {xs : List Ty} (hcase : (t.kind ≠ 8 ∧ U = t) ∨ (t.kind = 8 ∧ t.mod.toList.isEmpty = true ∧ (∃ d, declOf E.m.decls t.name = some d ∧ d.kind ≠ 3) ∧ U = openT E t.name)) (hall : allT U = true) (hxl : xs.length = U.subs.length) (hch : ∀ i (h1 : i < U.subs.length) (h2 : i < xs.length), RexF E U.subs[i] xs[i])
    (hpk : E.pkg.size ≤ maxLen) (hmj : -9223372036854775808 ≤ E.major ∧ E.major ≤ 9223372036854775807) : RexF E t (.mk U.kind U.pkg U.major U.mod U.name U.names xs) := by
  intro B ia ic da dc ea ec most depth cs w hE ht hB p1 p2 p3 p4
  obtain ⟨iS, hiS, hzS0, hzS1, hzS2⟩ := info_parts info_type
  obtain ⟨i0, hi, hz0, hz1, hz2⟩ := info_parts info_str
  obtain ⟨na, nc, sa, sc, f0, rfl, hft, -⟩ := ht.inv
  obtain ⟨hnl, hsl⟩ := shape_len hall
  have HE := Lib.hid hE
  have HT := Lib.hid ht
  have HFT := Lib.hid hft
  have HCC := Lib.hid hch
  have HXL := Lib.hid hxl
  have HCA := Lib.hid hcase
  have HPK := Lib.hid hpk
  have HMJ := Lib.hid hmj
  simp only [mdlCells, tyCells]
  clear hE ht hall hft hch hxl hcase hpk hmj
  go_enter Tryz.func77, Tryz.ntmps77
  go_upto_region 1 with fail
  obtain ⟨W, hWq, d0, d1, d2, hz, hb⟩ := threeMX w #[.string E.m.name, .slice ia E.m.imps.length ic, .slice da E.m.decls.length dc] #[.int .i64 t.kind, .string t.pkg, .int .i64 t.major, .string t.mod, .string t.name, .slice na t.names.length nc, .slice sa t.subs.length sc] #[.int .i64 0, .string { data := #[] }, .int .i64 0, .string { data := #[] }, .string { data := #[] }, .slice none 0 0, .slice none 0 0] 25 29 29
  rewrite [← hWq]; clear hWq
  have BC := Lib.hid hb
  have D0 := Lib.hid d0
  have D1 := Lib.hid d1
  have D2 := Lib.hid d2
  clear hb d0 d1 d2
  obtain ⟨m0, m1, m2⟩ := cellsT3 D0.out
  have ml := D0.out.lt
  obtain ⟨k0, k1, k2, k3, k4, k5, k6⟩ := cellsT7 D1.out
  have kl := D1.out.lt
  obtain ⟨e0, e1, e2, e3, e4, e5, e6⟩ := cellsT7 D2.out
  have el := D2.out.lt
  go_upto_if 26 with fail
  go_cut [] (fun wx => RxMeet w wx B E ia ic da dc ea ec U)
  case first =>
    rcases HCA.out with ⟨h8, rfl⟩ | ⟨h8, hm, ⟨d, hd, h3⟩, rfl⟩
    · have hc8 : (U.kind == 8) = false := by simp [h8]
      go_wp2_with fail
      go_meet
      exact ⟨na, nc, sa, sc, HT.out, D0.out, D1.out, D2.out, BC.out, by omega⟩
    · have hc8 : (t.kind == 8) = true := by simp [h8]
      have hc3 : (d.kind == 3) = false := by simp [h3]
      have HD := Lib.hid hd
      clear hd h8
      have hfi := fun W' (hb : Below W.heap.size W W') => rFindD_c E.m t.name ia ic da dc B W' (HE.out.mdl.under ((BC.out.trans (hb.mono BC.out.size)).mono hB)) (Nat.le_trans (Nat.le_trans hB BC.out.size) hb.size) HE.out.nd
      obtain ⟨j, hj, hjd, hix⟩ := decl_at HD.out
      simp only [hix, mdlCells] at hfi
      have hjI : (j : Int) < (E.m.decls.length : Int) := by omega
      have hj0 : (0 : Int) ≤ (j : Int) := by omega
      obtain ⟨-, bd, od, na4, nc4, sa4, sc4, hda, hbd, htd, c0, c1, c2, c3, c4, c5, c6, c7, c8⟩ := (HE.out.mdl.under (BC.out.mono hB)).decls.elem hj hjd
      obtain rfl := hda
      have HFI := Lib.hid hfi
      have HTD := Lib.hid htd
      have lbd : bd < W.heap.size := by have := BC.out.size; omega
      have lm := D0.out.lt
      have lk := D1.out.lt
      clear hfi hix htd
      go_upto_region 5 with fail
      go_cut [18] (fun v w4 => ∃ b4 : Nat, v = .pointer (some ⟨b4, 0, none⟩) ∧ W.heap.size ≤ b4 ∧ Blk w4 b4 #[.int .i64 d.kind, .string d.name, .int .i64 d.ty.kind, .string d.ty.pkg, .int .i64 d.ty.major, .string d.ty.mod, .string d.ty.name, .slice na4 d.ty.names.length nc4, .slice sa4 d.ty.subs.length sc4] 45 ∧ Below W.heap.size W w4)
      case first =>
        refine wp_region_until [(5, fun w' => w'.cell? ⟨w.heap.size, 0, none⟩ = some (.string E.m.name) ∧ w'.cell? ⟨w.heap.size, 1, none⟩ = some (.slice ia E.m.imps.length ic) ∧ w'.cell? ⟨w.heap.size, 2, none⟩ = some (.slice (some ⟨bd, od, none⟩) E.m.decls.length dc) ∧ w'.cell? ⟨w.heap.size + 1, 4, none⟩ = some (.string t.name)), (9, fun w' => w'.cell? ⟨w.heap.size, 2, none⟩ = some (.slice (some ⟨bd, od, none⟩) E.m.decls.length dc) ∧ w'.cell? ⟨bd, od + j * 9, none⟩ = some (.int .i64 d.kind) ∧ w'.cell? ⟨bd, od + j * 9 + 1, none⟩ = some (.string d.name) ∧ w'.cell? ⟨bd, od + j * 9 + 2, none⟩ = some (.int .i64 d.ty.kind) ∧ w'.cell? ⟨bd, od + j * 9 + 3, none⟩ = some (.string d.ty.pkg) ∧ w'.cell? ⟨bd, od + j * 9 + 4, none⟩ = some (.int .i64 d.ty.major) ∧ w'.cell? ⟨bd, od + j * 9 + 5, none⟩ = some (.string d.ty.mod) ∧ w'.cell? ⟨bd, od + j * 9 + 6, none⟩ = some (.string d.ty.name) ∧ w'.cell? ⟨bd, od + j * 9 + 7, none⟩ = some (.slice na4 d.ty.names.length nc4) ∧ w'.cell? ⟨bd, od + j * 9 + 8, none⟩ = some (.slice sa4 d.ty.subs.length sc4))] (by kernel_rfl) (Until.cons (fun _ => ⟨m0, m1, m2, k4⟩) (Until.cons (fun _ => ⟨m2, c0, c1, c2, c3, c4, c5, c6, c7, c8⟩) Until.nil)) (fun hU => ?_)
        refine AnyU.take (i := 0) (v := ?_) rfl (by kernel_rfl) (by kernel_rfl) (by kernel_rfl) (fun _ _ _ h => h) (by kernel_rfl) (by assumption) (by rfl) ?_ (fun hV => ?_)
        rotate_left 1
        · (intro wq; go_simp; try with_reducible rfl)
        clear hU; have hU := hV; clear hV
        try simp only [Act.put, aput]
        refine AnyU.loadc (i := 1) (d := 9) [6, 7, 9] (Si := fun w' => w'.cell? ⟨w.heap.size, 2, none⟩ = some (.slice (some ⟨bd, od, none⟩) E.m.decls.length dc) ∧ w'.cell? ⟨bd, od + j * 9, none⟩ = some (.int .i64 d.kind) ∧ w'.cell? ⟨bd, od + j * 9 + 1, none⟩ = some (.string d.name) ∧ w'.cell? ⟨bd, od + j * 9 + 2, none⟩ = some (.int .i64 d.ty.kind) ∧ w'.cell? ⟨bd, od + j * 9 + 3, none⟩ = some (.string d.ty.pkg) ∧ w'.cell? ⟨bd, od + j * 9 + 4, none⟩ = some (.int .i64 d.ty.major) ∧ w'.cell? ⟨bd, od + j * 9 + 5, none⟩ = some (.string d.ty.mod) ∧ w'.cell? ⟨bd, od + j * 9 + 6, none⟩ = some (.string d.ty.name) ∧ w'.cell? ⟨bd, od + j * 9 + 7, none⟩ = some (.slice na4 d.ty.names.length nc4) ∧ w'.cell? ⟨bd, od + j * 9 + 8, none⟩ = some (.slice sa4 d.ty.subs.length sc4)) (v := ?_) rfl (by kernel_rfl) (by kernel_rfl) (by kernel_rfl) (fun _ _ _ h => h) (by kernel_rfl) (by assumption) (by kernel_rfl) rfl (by simp) (by rfl) ?_ (fun hV => ?_)
        rotate_left 1
        · (intro wq hq; obtain ⟨u, -⟩ := hq; go_simp; try with_reducible rfl)
        clear hU; have hU := hV; clear hV
        try simp only [Act.put, aput]
        refine AnyU.loadc (i := 2) (d := 5) [5] (Si := fun w' => w'.cell? ⟨w.heap.size, 0, none⟩ = some (.string E.m.name) ∧ w'.cell? ⟨w.heap.size, 1, none⟩ = some (.slice ia E.m.imps.length ic) ∧ w'.cell? ⟨w.heap.size, 2, none⟩ = some (.slice (some ⟨bd, od, none⟩) E.m.decls.length dc) ∧ w'.cell? ⟨w.heap.size + 1, 4, none⟩ = some (.string t.name)) (v := ?_) rfl (by kernel_rfl) (by kernel_rfl) (by kernel_rfl) (fun _ _ _ h => h) (by kernel_rfl) (by assumption) (by kernel_rfl) rfl (by simp) (by rfl) ?_ (fun hV => ?_)
        rotate_left 1
        · (intro wq hq; obtain ⟨u0, u1, u2, -⟩ := hq; go_simp; try with_reducible rfl)
        clear hU; have hU := hV; clear hV
        try simp only [Act.put, aput]
        refine AnyU.take (i := 3) (v := ?_) rfl (by kernel_rfl) (by kernel_rfl) (by kernel_rfl) (fun _ _ _ h => h) (by kernel_rfl) (by assumption) (by rfl) ?_ (fun hV => ?_)
        rotate_left 1
        · (intro wq; go_simp; try with_reducible rfl)
        clear hU; have hU := hV; clear hV
        try simp only [Act.put, aput]
        refine AnyU.loadc (i := 4) (d := 5) [5] (Si := fun w' => w'.cell? ⟨w.heap.size, 0, none⟩ = some (.string E.m.name) ∧ w'.cell? ⟨w.heap.size, 1, none⟩ = some (.slice ia E.m.imps.length ic) ∧ w'.cell? ⟨w.heap.size, 2, none⟩ = some (.slice (some ⟨bd, od, none⟩) E.m.decls.length dc) ∧ w'.cell? ⟨w.heap.size + 1, 4, none⟩ = some (.string t.name)) (v := ?_) rfl (by kernel_rfl) (by kernel_rfl) (by kernel_rfl) (fun _ _ _ h => h) (by kernel_rfl) (by assumption) (by kernel_rfl) rfl (by simp) (by rfl) ?_ (fun hV => ?_)
        rotate_left 1
        · (intro wq hq; obtain ⟨-, -, -, u⟩ := hq; go_simp; try with_reducible rfl)
        clear hU; have hU := hV; clear hV
        try simp only [Act.put, aput]
        refine AnyU.ready2 (i := 5) (j := 8) (by kernel_rfl) (AnyU.one rfl fun K hK => ?_) (AnyU.one rfl fun K hK => ?_)
        · go_simp
          go_at_call 104
          refine (HFI.out _ (Below.refl W.heap.size W).drew).mono ?_
          rintro e w2 ⟨rfl, hb⟩
          have hb2 : Below W.heap.size W w2 := (Below.refl _ _).drew.trans hb
          clear hb
          have m2 := (hb2.cell (p := ⟨w.heap.size, 2, none⟩) lm).trans m2
          have c0 := (hb2.cell (p := ⟨bd, od + j * 9, none⟩) lbd).trans c0
          have c1 := (hb2.cell (p := ⟨bd, od + j * 9 + 1, none⟩) lbd).trans c1
          have c2 := (hb2.cell (p := ⟨bd, od + j * 9 + 2, none⟩) lbd).trans c2
          have c3 := (hb2.cell (p := ⟨bd, od + j * 9 + 3, none⟩) lbd).trans c3
          have c4 := (hb2.cell (p := ⟨bd, od + j * 9 + 4, none⟩) lbd).trans c4
          have c5 := (hb2.cell (p := ⟨bd, od + j * 9 + 5, none⟩) lbd).trans c5
          have c6 := (hb2.cell (p := ⟨bd, od + j * 9 + 6, none⟩) lbd).trans c6
          have c7 := (hb2.cell (p := ⟨bd, od + j * 9 + 7, none⟩) lbd).trans c7
          have c8 := (hb2.cell (p := ⟨bd, od + j * 9 + 8, none⟩) lbd).trans c8
          refine hK.out _ _ (Until.cons (fun h => absurd h (by decide)) (Until.cons (fun _ => ⟨m2, c0, c1, c2, c3, c4, c5, c6, c7, c8⟩) Until.nil)) (fun hV => ?_)
          clear hK K hU
          have hU := hV
          clear hV
          try simp only [Act.put, aput]
          refine AnyU.take (i := 6) (v := ?_) rfl (by kernel_rfl) (by kernel_rfl) (by kernel_rfl) (fun _ _ _ h => h) (by kernel_rfl) (by assumption) (by rfl) ?_ (fun hV => ?_)
          rotate_left 1
          · (intro wq; go_simp; try with_reducible rfl)
          clear hU; have hU := hV; clear hV
          try simp only [Act.put, aput]
          refine AnyU.loadc (i := 7) (d := 9) [9] (Si := fun w' => w'.cell? ⟨w.heap.size, 2, none⟩ = some (.slice (some ⟨bd, od, none⟩) E.m.decls.length dc) ∧ w'.cell? ⟨bd, od + j * 9, none⟩ = some (.int .i64 d.kind) ∧ w'.cell? ⟨bd, od + j * 9 + 1, none⟩ = some (.string d.name) ∧ w'.cell? ⟨bd, od + j * 9 + 2, none⟩ = some (.int .i64 d.ty.kind) ∧ w'.cell? ⟨bd, od + j * 9 + 3, none⟩ = some (.string d.ty.pkg) ∧ w'.cell? ⟨bd, od + j * 9 + 4, none⟩ = some (.int .i64 d.ty.major) ∧ w'.cell? ⟨bd, od + j * 9 + 5, none⟩ = some (.string d.ty.mod) ∧ w'.cell? ⟨bd, od + j * 9 + 6, none⟩ = some (.string d.ty.name) ∧ w'.cell? ⟨bd, od + j * 9 + 7, none⟩ = some (.slice na4 d.ty.names.length nc4) ∧ w'.cell? ⟨bd, od + j * 9 + 8, none⟩ = some (.slice sa4 d.ty.subs.length sc4)) (v := ?_) rfl (by kernel_rfl) (by kernel_rfl) (by kernel_rfl) (fun _ _ _ h => h) (by kernel_rfl) (by assumption) (by kernel_rfl) rfl (by simp) (by rfl) ?_ (fun hV => ?_)
          rotate_left 1
          · (intro wq hq; obtain ⟨-, u0, u1, u2, u3, u4, u5, u6, u7, u8⟩ := hq; go_simp; try with_reducible rfl)
          clear hU; have hU := hV; clear hV
          try simp only [Act.put, aput]
          refine AnyU.ready1 (i := 8) (by kernel_rfl) (AnyU.one rfl fun K hK => ?_)
          go_simp
          obtain ⟨zb, hbz, hzs⟩ := laidN w2 #[.int .i64 0, .string { data := #[] }, .int .i64 0, .string { data := #[] }, .int .i64 0, .string { data := #[] }, .string { data := #[] }, .slice none 0 0, .slice none 0 0] 45
          generalize hX3 : w2.alloc (.cells #[.int .i64 0, .string { data := #[] }, .int .i64 0, .string { data := #[] }, .int .i64 0, .string { data := #[] }, .string { data := #[] }, .slice none 0 0, .slice none 0 0] 45) = X3 at zb hbz hzs ⊢
          clear hX3
          have lm2 := Nat.lt_of_lt_of_le lm hb2.size
          have lbd2 := Nat.lt_of_lt_of_le lbd hb2.size
          have m2 := (hbz.cell (p := ⟨w.heap.size, 2, none⟩) lm2).trans m2
          have c0 := (hbz.cell (p := ⟨bd, od + j * 9, none⟩) lbd2).trans c0
          have c1 := (hbz.cell (p := ⟨bd, od + j * 9 + 1, none⟩) lbd2).trans c1
          have c2 := (hbz.cell (p := ⟨bd, od + j * 9 + 2, none⟩) lbd2).trans c2
          have c3 := (hbz.cell (p := ⟨bd, od + j * 9 + 3, none⟩) lbd2).trans c3
          have c4 := (hbz.cell (p := ⟨bd, od + j * 9 + 4, none⟩) lbd2).trans c4
          have c5 := (hbz.cell (p := ⟨bd, od + j * 9 + 5, none⟩) lbd2).trans c5
          have c6 := (hbz.cell (p := ⟨bd, od + j * 9 + 6, none⟩) lbd2).trans c6
          have c7 := (hbz.cell (p := ⟨bd, od + j * 9 + 7, none⟩) lbd2).trans c7
          have c8 := (hbz.cell (p := ⟨bd, od + j * 9 + 8, none⟩) lbd2).trans c8
          refine hK.out _ _ (Until.cons (fun h => absurd h (by decide)) (Until.cons (fun _ => ⟨m2, c0, c1, c2, c3, c4, c5, c6, c7, c8⟩) Until.nil)) (fun hV => ?_)
          clear hK K hU
          have hU := hV
          clear hV
          try simp only [Act.put, aput]
          have hgz : W.heap.size ≤ w2.heap.size := hb2.size
          have hbX : Below W.heap.size W X3 := hb2.trans (hbz.mono hb2.size)
          obtain ⟨d0, d1, d2, d3, d4, d5, d6, d7, d8⟩ := cellsT9 zb
          have f0 := zb.free 0
          have f1 := zb.free 1
          have f2 := zb.free 2
          have f3 := zb.free 3
          have f4 := zb.free 4
          have f5 := zb.free 5
          have f6 := zb.free 6
          have f7 := zb.free 7
          have f8 := zb.free 8
          have ld := zb.lt
          clear m2 c0 c1 c2 c3 c4 c5 c6 c7 c8
          refine AnyU.ready1 (i := 9) (by kernel_rfl) (AnyU.one rfl fun K hK => ?_)
          go_simp
          obtain ⟨Wf, hWq, hp, hbp⟩ := st9 (.int .i64 d.kind) (.string d.name) (.int .i64 d.ty.kind) (.string d.ty.pkg) (.int .i64 d.ty.major) (.string d.ty.mod) (.string d.ty.name) (.slice na4 d.ty.names.length nc4) (.slice sa4 d.ty.subs.length sc4) zb hbX hgz
          rewrite [← hWq]; clear hWq
          refine hK.out _ _ (Until.offT (by kernel_rfl)) (fun hV => ?_)
          clear hK K hU
          have hU := hV
          clear hV
          try simp only [Act.put, aput]
          refine AnyU.done (by kernel_rfl) ?_
          go_wp2_with fail
          go_meet
          exact ⟨_, rfl, hgz, hp, hbp⟩
        · go_simp
          obtain ⟨zb, hbz, hzs⟩ := laidD W #[.int .i64 0, .string { data := #[] }, .int .i64 0, .string { data := #[] }, .int .i64 0, .string { data := #[] }, .string { data := #[] }, .slice none 0 0, .slice none 0 0] 45
          generalize hX3 : (W.alloc (.cells #[.int .i64 0, .string { data := #[] }, .int .i64 0, .string { data := #[] }, .int .i64 0, .string { data := #[] }, .string { data := #[] }, .slice none 0 0, .slice none 0 0] 45)).drew = X3 at zb hbz hzs ⊢
          clear hX3
          rw [hz] at zb
          have m2 := (hbz.cell (p := ⟨w.heap.size, 2, none⟩) lm).trans m2
          have c0 := (hbz.cell (p := ⟨bd, od + j * 9, none⟩) lbd).trans c0
          have c1 := (hbz.cell (p := ⟨bd, od + j * 9 + 1, none⟩) lbd).trans c1
          have c2 := (hbz.cell (p := ⟨bd, od + j * 9 + 2, none⟩) lbd).trans c2
          have c3 := (hbz.cell (p := ⟨bd, od + j * 9 + 3, none⟩) lbd).trans c3
          have c4 := (hbz.cell (p := ⟨bd, od + j * 9 + 4, none⟩) lbd).trans c4
          have c5 := (hbz.cell (p := ⟨bd, od + j * 9 + 5, none⟩) lbd).trans c5
          have c6 := (hbz.cell (p := ⟨bd, od + j * 9 + 6, none⟩) lbd).trans c6
          have c7 := (hbz.cell (p := ⟨bd, od + j * 9 + 7, none⟩) lbd).trans c7
          have c8 := (hbz.cell (p := ⟨bd, od + j * 9 + 8, none⟩) lbd).trans c8
          have m0 := (hbz.cell (p := ⟨w.heap.size, 0, none⟩) lm).trans m0
          have m1 := (hbz.cell (p := ⟨w.heap.size, 1, none⟩) lm).trans m1
          have k4 := (hbz.cell (p := ⟨w.heap.size + 1, 4, none⟩) lk).trans k4
          refine hK.out _ _ (Until.cons (fun _ => ⟨m0, m1, m2, k4⟩) (Until.cons (fun _ => ⟨m2, c0, c1, c2, c3, c4, c5, c6, c7, c8⟩) Until.nil)) (fun hV => ?_)
          clear hK K hU
          have hU := hV
          clear hV
          try simp only [Act.put, aput]
          refine AnyU.ready1 (i := 5) (by kernel_rfl) (AnyU.one rfl fun K hK => ?_)
          go_simp
          go_at_call 104
          refine (HFI.out _ hbz).mono ?_
          rintro e w2 ⟨rfl, hb⟩
          have lm2 := Nat.lt_of_lt_of_le lm hbz.size
          have lbd2 := Nat.lt_of_lt_of_le lbd hbz.size
          have m2 := (hb.cell (p := ⟨w.heap.size, 2, none⟩) lm2).trans m2
          have c0 := (hb.cell (p := ⟨bd, od + j * 9, none⟩) lbd2).trans c0
          have c1 := (hb.cell (p := ⟨bd, od + j * 9 + 1, none⟩) lbd2).trans c1
          have c2 := (hb.cell (p := ⟨bd, od + j * 9 + 2, none⟩) lbd2).trans c2
          have c3 := (hb.cell (p := ⟨bd, od + j * 9 + 3, none⟩) lbd2).trans c3
          have c4 := (hb.cell (p := ⟨bd, od + j * 9 + 4, none⟩) lbd2).trans c4
          have c5 := (hb.cell (p := ⟨bd, od + j * 9 + 5, none⟩) lbd2).trans c5
          have c6 := (hb.cell (p := ⟨bd, od + j * 9 + 6, none⟩) lbd2).trans c6
          have c7 := (hb.cell (p := ⟨bd, od + j * 9 + 7, none⟩) lbd2).trans c7
          have c8 := (hb.cell (p := ⟨bd, od + j * 9 + 8, none⟩) lbd2).trans c8
          have hbX : Below W.heap.size W w2 := hbz.trans (hb.mono (by omega))
          have zb := zb.under hb zb.lt
          have hgz : W.heap.size ≤ w.heap.size + 1 + 1 + 1 := Nat.le_of_eq hz
          clear hb
          refine hK.out _ _ (Until.cons (fun h => absurd h (by decide)) (Until.cons (fun _ => ⟨m2, c0, c1, c2, c3, c4, c5, c6, c7, c8⟩) Until.nil)) (fun hV => ?_)
          clear hK K hU
          have hU := hV
          clear hV
          try simp only [Act.put, aput]
          refine AnyU.take (i := 6) (v := ?_) rfl (by kernel_rfl) (by kernel_rfl) (by kernel_rfl) (fun _ _ _ h => h) (by kernel_rfl) (by assumption) (by rfl) ?_ (fun hV => ?_)
          rotate_left 1
          · (intro wq; go_simp; try with_reducible rfl)
          clear hU; have hU := hV; clear hV
          try simp only [Act.put, aput]
          refine AnyU.loadc (i := 7) (d := 9) [9] (Si := fun w' => w'.cell? ⟨w.heap.size, 2, none⟩ = some (.slice (some ⟨bd, od, none⟩) E.m.decls.length dc) ∧ w'.cell? ⟨bd, od + j * 9, none⟩ = some (.int .i64 d.kind) ∧ w'.cell? ⟨bd, od + j * 9 + 1, none⟩ = some (.string d.name) ∧ w'.cell? ⟨bd, od + j * 9 + 2, none⟩ = some (.int .i64 d.ty.kind) ∧ w'.cell? ⟨bd, od + j * 9 + 3, none⟩ = some (.string d.ty.pkg) ∧ w'.cell? ⟨bd, od + j * 9 + 4, none⟩ = some (.int .i64 d.ty.major) ∧ w'.cell? ⟨bd, od + j * 9 + 5, none⟩ = some (.string d.ty.mod) ∧ w'.cell? ⟨bd, od + j * 9 + 6, none⟩ = some (.string d.ty.name) ∧ w'.cell? ⟨bd, od + j * 9 + 7, none⟩ = some (.slice na4 d.ty.names.length nc4) ∧ w'.cell? ⟨bd, od + j * 9 + 8, none⟩ = some (.slice sa4 d.ty.subs.length sc4)) (v := ?_) rfl (by kernel_rfl) (by kernel_rfl) (by kernel_rfl) (fun _ _ _ h => h) (by kernel_rfl) (by assumption) (by kernel_rfl) rfl (by simp) (by rfl) ?_ (fun hV => ?_)
          rotate_left 1
          · (intro wq hq; obtain ⟨-, u0, u1, u2, u3, u4, u5, u6, u7, u8⟩ := hq; go_simp; try with_reducible rfl)
          clear hU; have hU := hV; clear hV
          try simp only [Act.put, aput]
          obtain ⟨d0, d1, d2, d3, d4, d5, d6, d7, d8⟩ := cellsT9 zb
          have f0 := zb.free 0
          have f1 := zb.free 1
          have f2 := zb.free 2
          have f3 := zb.free 3
          have f4 := zb.free 4
          have f5 := zb.free 5
          have f6 := zb.free 6
          have f7 := zb.free 7
          have f8 := zb.free 8
          have ld := zb.lt
          clear m2 c0 c1 c2 c3 c4 c5 c6 c7 c8
          refine AnyU.ready1 (i := 9) (by kernel_rfl) (AnyU.one rfl fun K hK => ?_)
          go_simp
          obtain ⟨Wf, hWq, hp, hbp⟩ := st9 (.int .i64 d.kind) (.string d.name) (.int .i64 d.ty.kind) (.string d.ty.pkg) (.int .i64 d.ty.major) (.string d.ty.mod) (.string d.ty.name) (.slice na4 d.ty.names.length nc4) (.slice sa4 d.ty.subs.length sc4) zb hbX hgz
          rewrite [← hWq]; clear hWq
          refine hK.out _ _ (Until.offT (by kernel_rfl)) (fun hV => ?_)
          clear hK K hU
          have hU := hV
          clear hV
          try simp only [Act.put, aput]
          refine AnyU.done (by kernel_rfl) ?_
          go_wp2_with fail
          go_meet
          exact ⟨_, rfl, hgz, hp, hbp⟩
      case rest =>
        rename World => w4
        obtain ⟨b4, rfl, hb4W, hb4, hb⟩ := hcut
        clear m0 m1 m2 k0 k1 k2 k3 k4 k5 k6 e0 e1 e2 e3 e4 e5 e6 ml kl el
        clear c0 c1 c2 c3 c4 c5 c6 c7 c8 lbd lm lk
        have hwn : w.heap.size + 1 + 1 + 1 ≤ w4.heap.size := by have := hb.size; omega
        have D0 := Lib.hid (D0.out.under hb D0.out.lt)
        have D1 := Lib.hid (D1.out.under hb D1.out.lt)
        have D2 := Lib.hid (D2.out.under hb D2.out.lt)
        have BC := Lib.hid (BC.out.trans (hb.mono BC.out.size))
        clear hb
        have DQ := Lib.hid hb4
        clear hb4
        obtain ⟨m0, m1, m2⟩ := cellsT3 D0.out
        have ml := D0.out.lt
        obtain ⟨k0, k1, k2, k3, k4, k5, k6⟩ := cellsT7 D1.out
        have kl := D1.out.lt
        obtain ⟨e0, e1, e2, e3, e4, e5, e6⟩ := cellsT7 D2.out
        have el := D2.out.lt
        obtain ⟨q0, q1, q2, q3, q4, q5, q6, q7, q8⟩ := cellsT9 DQ.out
        have ql := DQ.out.lt
        have g0 := D1.out.free 0
        have g1 := D1.out.free 1
        have g2 := D1.out.free 2
        have g3 := D1.out.free 3
        have g4 := D1.out.free 4
        have g5 := D1.out.free 5
        have g6 := D1.out.free 6
        go_wp2_with fail
        go_meet
        have hp := pf7 (.int .i64 9) (.string E.pkg) (.int .i64 E.major) (.string E.m.name) (.string t.name) (.slice none 0 0) (.slice none 0 0) D1.out
        have hbp := pb7 (.int .i64 9) (.string E.pkg) (.int .i64 E.major) (.string E.m.name) (.string t.name) (.slice none 0 0) (.slice none 0 0) BC.out (show w.heap.size ≤ w.heap.size + 1 by omega)
        have hsz := ps7 w4 (g := w.heap.size + 1) (.int .i64 9) (.string E.pkg) (.int .i64 E.major) (.string E.m.name) (.string t.name) (.slice none 0 0) (.slice none 0 0)
        have hfz := fr7 w4 (g := w.heap.size + 1) (.int .i64 9) (.string E.pkg) (.int .i64 E.major) (.string E.m.name) (.string t.name) (.slice none 0 0) (.slice none 0 0)
        generalize (((((((w4.setCell ⟨w.heap.size + 1, 0, none⟩ (.int .i64 9)).setCell ⟨w.heap.size + 1, 1, none⟩ (.string E.pkg)).setCell ⟨w.heap.size + 1, 2, none⟩ (.int .i64 E.major)).setCell ⟨w.heap.size + 1, 3, none⟩ (.string E.m.name)).setCell ⟨w.heap.size + 1, 4, none⟩ (.string t.name)).setCell ⟨w.heap.size + 1, 5, none⟩ (.slice none 0 0)).setCell ⟨w.heap.size + 1, 6, none⟩ (.slice none 0 0)) = Wz at hp hbp hsz hfz ⊢
        exact ⟨none, 0, none, 0, openT_c w B E t.name HPK.out HMJ.out HE.out.mdl.name HFT.out.name, D0.out.fr hfz (fun e => by have e : w.heap.size = w.heap.size + 1 := e; omega), hp, D2.out.fr hfz (fun e => by have e : w.heap.size + 1 + 1 = w.heap.size + 1 := e; omega), hbp, by omega⟩
  case rest =>
    rename World => wx
    obtain ⟨nu, mu, su, ou, htu, b0, b1, b2, hb, hsx⟩ := hcut
    clear m0 m1 m2 ml k0 k1 k2 k3 k4 k5 k6 kl e0 e1 e2 e3 e4 e5 e6 el D0 D1 D2 BC hz HT HFT HCA
    simp only [tyCells] at b1
    have D0 := Lib.hid b0
    have D1 := Lib.hid b1
    have D2 := Lib.hid b2
    have BC := Lib.hid hb
    have HTU := Lib.hid htu
    obtain ⟨na2, nc2, sa2, sc2, fu, hcu, hfu, hnu, hsu, -, -, hsubu⟩ := htu.inv
    obtain ⟨e1, e2, e3, e4⟩ := tyCells_inj hcu
    subst e1 e2 e3 e4
    have HN := Lib.hid hnu
    have HS := Lib.hid hsu
    have HU := Lib.hid hsubu
    have HF := Lib.hid hfu
    clear b0 b1 b2 hb htu hcu hfu hnu hsu hsubu
    obtain ⟨m0, m1, m2⟩ := cellsT3 D0.out
    have ml := D0.out.lt
    obtain ⟨k0, k1, k2, k3, k4, k5, k6⟩ := cellsT7 D1.out
    have kl := D1.out.lt
    obtain ⟨e0, e1, e2, e3, e4, e5, e6⟩ := cellsT7 D2.out
    have el := D2.out.lt
    by_cases h01 : most < 1
    · have f0 := D2.out.free 0
      have f1 := D2.out.free 1
      have f2 := D2.out.free 2
      have f3 := D2.out.free 3
      have f4 := D2.out.free 4
      have f5 := D2.out.free 5
      have f6 := D2.out.free 6
      go_wp2_with fail
      obtain ⟨Wz, hWq, hp, hbp⟩ := st7 (.int .i64 0) (.string { data := #[] }) (.int .i64 0) (.string { data := #[] }) (.string { data := #[] }) (.slice none 0 0) (.slice none 0 0) D2.out BC.out (show w.heap.size ≤ w.heap.size + 1 + 1 by omega)
      rewrite [← hWq]; clear hWq
      obtain ⟨r0, r1, r2, r3, r4, r5, r6⟩ := cellsT7 hp
      refine bodyPost_ret (by simp [results, Tryz.results77, go_sem, r0, r1, r2, r3, r4, r5, r6]; try rfl) rfl ?_
      exact ⟨_, zT, 0, rfl, .inr ⟨fit_small (.inl h01), rfl, rfl⟩, zT_m _ _, hbp⟩
    by_cases h02 : depth < 1
    · have f0 := D2.out.free 0
      have f1 := D2.out.free 1
      have f2 := D2.out.free 2
      have f3 := D2.out.free 3
      have f4 := D2.out.free 4
      have f5 := D2.out.free 5
      have f6 := D2.out.free 6
      go_wp2_with fail
      obtain ⟨Wz, hWq, hp, hbp⟩ := st7 (.int .i64 0) (.string { data := #[] }) (.int .i64 0) (.string { data := #[] }) (.string { data := #[] }) (.slice none 0 0) (.slice none 0 0) D2.out BC.out (show w.heap.size ≤ w.heap.size + 1 + 1 by omega)
      rewrite [← hWq]; clear hWq
      obtain ⟨r0, r1, r2, r3, r4, r5, r6⟩ := cellsT7 hp
      refine bodyPost_ret (by simp [results, Tryz.results77, go_sem, r0, r1, r2, r3, r4, r5, r6]; try rfl) rfl ?_
      exact ⟨_, zT, 0, rfl, .inr ⟨fit_small (.inr h02), rfl, rfl⟩, zT_m _ _, hbp⟩
    go_upto_region 12 with fail
    clear m0 m1 m2 k0 k1 k2 k3 k4 k5 k6 e0 e1 e2 e3 e4 e5 e6 ml kl el
    obtain ⟨W, hWq, bN, hb, hzN⟩ := laidNX wx #[.int .i64 U.kind, .string U.pkg, .int .i64 U.major, .string U.mod, .string U.name, .slice nu U.names.length mu, .slice su U.subs.length ou] 29
    rewrite [← hWq]; clear hWq
    have D0 := Lib.hid (D0.out.under hb D0.out.lt)
    have D1 := Lib.hid (D1.out.under hb D1.out.lt)
    have D2 := Lib.hid (D2.out.under hb D2.out.lt)
    have HSW := Lib.hid (show W.heap.size = wx.heap.size + 1 from hzN)
    have BC := Lib.hid (BC.out.trans (hb.mono BC.out.size))
    have DG := Lib.hid bN
    clear bN hb hzN
    obtain ⟨m0, m1, m2⟩ := cellsT3 D0.out
    have ml := D0.out.lt
    obtain ⟨k0, k1, k2, k3, k4, k5, k6⟩ := cellsT7 D1.out
    have kl := D1.out.lt
    obtain ⟨e0, e1, e2, e3, e4, e5, e6⟩ := cellsT7 D2.out
    have el := D2.out.lt
    obtain ⟨g0, g1, g2, g3, g4, g5, g6⟩ := cellsT7 DG.out
    have gl := DG.out.lt
    have HN := Lib.hid (HN.out.under (BC.out.mono hB))
    have f0 := DG.out.free 0
    have f1 := DG.out.free 1
    have f2 := DG.out.free 2
    have f3 := DG.out.free 3
    have f4 := DG.out.free 4
    have f5 := DG.out.free 5
    have f6 := DG.out.free 6
    clear m0 m1 m2 ml k0 k1 k2 k3 k4 k6 e0 e1 e2 e3 e4 e5 e6 el g0 g1 g2 g3 g4 g6 f0 f1 f2 f3 f4 f6
    go_cut [] (fun wy => ∃ (w1 : World) (A1 : Option Addr) (c1 : Nat), Below W.heap.size W w1 ∧ w1.ownsRow W.heap.size 9 1 (.slice A1 U.names.length c1) U.names.length (U.names.map Value.string) ∧ wy = w1.setCell ⟨wx.heap.size, 5, none⟩ (.slice A1 U.names.length c1))
    case first =>
      cases nu with
      | none =>
        have hnil : U.names = [] := by
          rcases HN.out with h | ⟨b, o, h, -⟩
          · exact h
          · cases h
        have hl0 : U.names.length = 0 := by rw [hnil]; rfl
        have HNL := Lib.hid hnil
        have HL0 := Lib.hid hl0
        rw [hl0] at k5 g5
        clear hnil hl0
        go_wp2_with fail
        go_meet
        have hown := World.ownsRow_made (base := W.heap.size) (size := 1) (e := 9) W #[] 0 (Nat.le_refl _) (Nat.zero_le _) rfl
        refine ⟨W.alloc (.cells #[] 9), some ⟨W.heap.size, 0, none⟩, 0, (Below.refl _ _).alloc (Nat.le_refl _) _, ?_, ?_⟩
        · rw [HNL.out]; exact hown
        · rw [HL0.out]
          first
            | rfl
            | exact (World.setCell_alloc_past _ wx.heap.size 5 _ gl).symm
      | some a =>
        have hS := strs_cells HN.out
        have hB1 : ∀ j u, (U.names.map Value.string)[j]? = some u → (W.alloc (.cells #[] 9)).cell? (a.add j) = some u := fun j u hj => Lib.cell?_alloc_some _ (hS j u hj)
        have HSC := Lib.hid hB1
        have hwl : U.names.length ≤ 1000 := by omega
        clear hS hB1
        go_wp2_with (at_builtin; refine wpList_append_own _ rfl _ _ 26 rfl W.heap.size 9 i0 (.string { data := #[] }) 1 16 Tryz.underlying26 hi hz0 hz1 hz2 rfl (by decide) _ _ _ rfl (World.ownsRow_made W #[] 0 (Nat.le_refl _) (Nat.zero_le _) rfl) a U.names.length mu (U.names.map Value.string) rfl ?qc1 ?qc2 ?qc3 ?qc4 ?qc5 ?qc6 ?_)
        try (case qc1 => simp)
        case qc2 =>
          first
            | exact fun j u hj => HSC.out j u hj
            | exact fun j u hj => HSC.out j (.string u) (by rw [List.getElem?_map, hj]; rfl)
        case qc3 =>
          intro u hu
          first
            | rfl
            | (obtain ⟨x, -, rfl⟩ := List.mem_map.1 hu
               rfl)
        case qc4 => unfold maxLen; omega
        case qc5 => omega
        try (case qc6 => simp)
        intro v' w1 hown hgrow hnil
        have hb : Below W.heap.size W w1 := ((Below.refl _ W).alloc (Nat.le_refl _) _).grown hgrow (by simp) (by intro k hk; simp [Value.ownBlock] at hk; omega)
        have hown' : w1.ownsRow W.heap.size 9 1 v' U.names.length (U.names.map Value.string) := by simpa using hown
        have hfm : ∃ A1 c1, v' = .slice A1 U.names.length c1 := by
          obtain ⟨-, ⟨rfl, h0⟩ | ⟨g, cap, cur, rfl, -⟩⟩ := hown'
          · exact ⟨none, 0, by rw [h0]⟩
          · exact ⟨_, _, rfl⟩
        obtain ⟨A1, c1, rfl⟩ := hfm
        have hbx := DG.out.under hb DG.out.lt
        have HOW := Lib.hid hown'
        have HBB := Lib.hid hb
        clear hown hgrow hnil hown' hb g5 gl f5
        have g5 := hbx.cell 5
        have f5 := hbx.free 5
        have gl := hbx.lt
        simp at g5
        clear hbx
        go_wp2_with fail
        go_meet
        exact ⟨w1, A1, c1, HBB.out, HOW.out, rfl⟩
    case rest =>
      obtain ⟨w1, A1, c1, hb1, hown, rfl⟩ := hcut
      clear k5 kl g5 gl f5
      obtain ⟨A2, c2, hv, hst⟩ := rx_start (E := E) (ia := ia) (ic := ic) (da := da) (dc := dc) (ea := ea) (ec := ec) BC.out hsx HSW.out D0.out D1.out D2.out DG.out hb1 hown rfl
      cases hv
      have hbx := (DG.out.under hb1 DG.out.lt).set 5 (.slice A1 U.names.length c1)
      clear hb1 hown
      generalize (w1.setCell ⟨wx.heap.size, 5, none⟩ (.slice A1 U.names.length c1)) = Wx at hst hbx ⊢
      have g6 := hbx.cell 6
      have f6 := hbx.free 6
      simp at g6
      have gl := hbx.lt
      have HST := Lib.hid hst
      have hxl := HXL.out
      clear hbx hst
      go_wp2_with fail
      go_loopw [20, 21] (fun nv iv wr => ∃ (k : Nat) (n : Int) (sv : Value) (ys : List Ty) (F : List (Array Value)), k ≤ U.subs.length ∧ iv = .int .i64 k ∧ nv = .int .i64 n ∧ ys = xs.take k ∧ ExK xs most depth k n ∧ RxRel w wr wx.heap.size E ia ic da dc ea ec U (tyCells U nu mu su ou) A1 c1 sv ys F k) (fun _ iv _ => U.subs.length - (intOf iv).toNat)
      case atStart => exact ⟨0, 1, _, _, _, Nat.zero_le _, rfl, rfl, by simp, ExK.zero (by omega), HST.out⟩
      case round =>
        rename World => wr
        clear HST g6 f6 gl
        obtain ⟨k, n, sv, ys, F, hk, rfl, rfl, hys, hex, hr⟩ := hrel
        have HEX := Lib.hid hex
        have HR := Lib.hid hr
        have hsz := hr.size
        have hgl := hr.gl
        have hn1 := hex.pos
        have hn2 := hex.le
        have HYS := Lib.hid hys
        simp only [tyCells] at hr
        have d0 := hr.bm
        have d1 := hr.bt
        have D0 := Lib.hid d0
        have D1 := Lib.hid d1
        obtain ⟨m0, m1, m2⟩ := cellsT3 d0
        have ml := d0.lt
        obtain ⟨k0, k1, k2, k3, k4, k5, k6⟩ := cellsT7 d1
        have kl := d1.lt
        have BR := Lib.hid hr.below
        clear hr hex hys d0 d1
        by_cases hlt : k < U.subs.length
        · have hacc : Below B w wr := BR.out.mono hB
          have hT1 := (HU.out k hlt).under hacc
          obtain ⟨b2, o2, na2, nc2, sa2, sc2, hsa, hbb2, hfk2, c0, c1, c2, c3, c4, c5, c6⟩ := TyC.elem (HS.out.keep fun p hp => hacc.cell (p := p) hp) hlt hT1
          obtain rfl := hsa
          rw [hfk2] at hT1
          have hsr : w.heap.size ≤ wr.heap.size := BR.out.size
          have lb2 : b2 < wr.heap.size := by omega
          have hltI : (k : Int) < (U.subs.length : Int) := by omega
          have hk0 : (0 : Int) ≤ (k : Int) := by omega
          have hkx : k < xs.length := hxl ▸ hlt
          obtain ⟨y0, hy0⟩ : ∃ y, xs[k] = y := ⟨_, rfl⟩
          have hch := fun w' (hb : Below wr.heap.size wr w') => HCC.out k hlt hkx B ia ic da dc ea ec (most - n) (depth - 1) _ w' (HE.out.under ((BR.out.trans (hb.mono hsr)).mono hB)) (hT1.under (hb.mono (Nat.le_trans hB hsr))) (Nat.le_trans (Nat.le_trans hB hsr) hb.size) (by omega) (by omega) (by omega) (by omega)
          simp only [mdlCells, tyCells, hy0] at hch
          have HCH := Lib.hid hch
          clear hT1 hfk2 hacc hch
          go_upto_region 18 with fail
          go_cut [22, 23] (fun p q w4 => ∃ (b4 : Nat) (y : Ty) (n3 : Int) (na3 : Option Addr) (nc3 : Nat) (sa3 : Option Addr) (sc3 : Nat), p = .pointer (some ⟨b4, 0, none⟩) ∧ q = .int .i64 n3 ∧ wr.heap.size ≤ b4 ∧ Blk w4 b4 #[.int .i64 y.kind, .string y.pkg, .int .i64 y.major, .string y.mod, .string y.name, .slice na3 y.names.length nc3, .slice sa3 y.subs.length sc3] 29 ∧ RexRes y0 (most - n) (depth - 1) y n3 ∧ TyM w4 (Fresh wr w4) y #[.int .i64 y.kind, .string y.pkg, .int .i64 y.major, .string y.mod, .string y.name, .slice na3 y.names.length nc3, .slice sa3 y.subs.length sc3] ∧ Below wr.heap.size wr w4)
          case first =>
            refine wp_region_until [(14, fun w' => w'.cell? ⟨w.heap.size, 0, none⟩ = some (.string E.m.name) ∧ w'.cell? ⟨w.heap.size, 1, none⟩ = some (.slice ia E.m.imps.length ic) ∧ w'.cell? ⟨w.heap.size, 2, none⟩ = some (.slice da E.m.decls.length dc) ∧ w'.cell? ⟨w.heap.size + 1, 6, none⟩ = some (.slice (some ⟨b2, o2, none⟩) U.subs.length ou) ∧ w'.cell? ⟨b2, o2 + k * 7, none⟩ = some (.int .i64 U.subs[k].kind) ∧ w'.cell? ⟨b2, o2 + k * 7 + 1, none⟩ = some (.string U.subs[k].pkg) ∧ w'.cell? ⟨b2, o2 + k * 7 + 2, none⟩ = some (.int .i64 U.subs[k].major) ∧ w'.cell? ⟨b2, o2 + k * 7 + 3, none⟩ = some (.string U.subs[k].mod) ∧ w'.cell? ⟨b2, o2 + k * 7 + 4, none⟩ = some (.string U.subs[k].name) ∧ w'.cell? ⟨b2, o2 + k * 7 + 5, none⟩ = some (.slice na2 U.subs[k].names.length nc2) ∧ w'.cell? ⟨b2, o2 + k * 7 + 6, none⟩ = some (.slice sa2 U.subs[k].subs.length sc2))] (by kernel_rfl) (Until.cons (fun _ => ⟨m0, m1, m2, k6, c0, c1, c2, c3, c4, c5, c6⟩) Until.nil) (fun hU => ?_)
            refine AnyU.loadc (i := 0) (d := 14) [14] (Si := fun w' => w'.cell? ⟨w.heap.size, 0, none⟩ = some (.string E.m.name) ∧ w'.cell? ⟨w.heap.size, 1, none⟩ = some (.slice ia E.m.imps.length ic) ∧ w'.cell? ⟨w.heap.size, 2, none⟩ = some (.slice da E.m.decls.length dc) ∧ w'.cell? ⟨w.heap.size + 1, 6, none⟩ = some (.slice (some ⟨b2, o2, none⟩) U.subs.length ou) ∧ w'.cell? ⟨b2, o2 + k * 7, none⟩ = some (.int .i64 U.subs[k].kind) ∧ w'.cell? ⟨b2, o2 + k * 7 + 1, none⟩ = some (.string U.subs[k].pkg) ∧ w'.cell? ⟨b2, o2 + k * 7 + 2, none⟩ = some (.int .i64 U.subs[k].major) ∧ w'.cell? ⟨b2, o2 + k * 7 + 3, none⟩ = some (.string U.subs[k].mod) ∧ w'.cell? ⟨b2, o2 + k * 7 + 4, none⟩ = some (.string U.subs[k].name) ∧ w'.cell? ⟨b2, o2 + k * 7 + 5, none⟩ = some (.slice na2 U.subs[k].names.length nc2) ∧ w'.cell? ⟨b2, o2 + k * 7 + 6, none⟩ = some (.slice sa2 U.subs[k].subs.length sc2)) (v := ?_) rfl (by kernel_rfl) (by kernel_rfl) (by kernel_rfl) (fun _ _ _ h => h) (by kernel_rfl) (by assumption) (by kernel_rfl) rfl (by simp) (by rfl) ?_ (fun hV => ?_)
            rotate_left 1
            · (intro wq hq; obtain ⟨u0, u1, u2, -⟩ := hq; go_simp; try with_reducible rfl)
            clear hU; have hU := hV; clear hV
            try simp only [Act.put, aput]
            refine AnyU.take (i := 1) (v := ?_) rfl (by kernel_rfl) (by kernel_rfl) (by kernel_rfl) (fun _ _ _ h => h) (by kernel_rfl) (by assumption) (by rfl) ?_ (fun hV => ?_)
            rotate_left 1
            · (intro wq; go_simp; try with_reducible rfl)
            clear hU; have hU := hV; clear hV
            try simp only [Act.put, aput]
            refine AnyU.take (i := 2) (v := ?_) rfl (by kernel_rfl) (by kernel_rfl) (by kernel_rfl) (fun _ _ _ h => h) (by kernel_rfl) (by assumption) (by rfl) ?_ (fun hV => ?_)
            rotate_left 1
            · (intro wq; go_simp; try with_reducible rfl)
            clear hU; have hU := hV; clear hV
            try simp only [Act.put, aput]
            refine AnyU.take (i := 3) (v := ?_) rfl (by kernel_rfl) (by kernel_rfl) (by kernel_rfl) (fun _ _ _ h => h) (by kernel_rfl) (by assumption) (by rfl) ?_ (fun hV => ?_)
            rotate_left 1
            · (intro wq; go_simp; try with_reducible rfl)
            clear hU; have hU := hV; clear hV
            try simp only [Act.put, aput]
            refine AnyU.take (i := 4) (v := ?_) rfl (by kernel_rfl) (by kernel_rfl) (by kernel_rfl) (fun _ _ _ h => h) (by kernel_rfl) (by assumption) (by rfl) ?_ (fun hV => ?_)
            rotate_left 1
            · (intro wq; go_simp; try with_reducible rfl)
            clear hU; have hU := hV; clear hV
            try simp only [Act.put, aput]
            refine AnyU.loadc (i := 5) (d := 14) [7, 8, 14] (Si := fun w' => w'.cell? ⟨w.heap.size, 0, none⟩ = some (.string E.m.name) ∧ w'.cell? ⟨w.heap.size, 1, none⟩ = some (.slice ia E.m.imps.length ic) ∧ w'.cell? ⟨w.heap.size, 2, none⟩ = some (.slice da E.m.decls.length dc) ∧ w'.cell? ⟨w.heap.size + 1, 6, none⟩ = some (.slice (some ⟨b2, o2, none⟩) U.subs.length ou) ∧ w'.cell? ⟨b2, o2 + k * 7, none⟩ = some (.int .i64 U.subs[k].kind) ∧ w'.cell? ⟨b2, o2 + k * 7 + 1, none⟩ = some (.string U.subs[k].pkg) ∧ w'.cell? ⟨b2, o2 + k * 7 + 2, none⟩ = some (.int .i64 U.subs[k].major) ∧ w'.cell? ⟨b2, o2 + k * 7 + 3, none⟩ = some (.string U.subs[k].mod) ∧ w'.cell? ⟨b2, o2 + k * 7 + 4, none⟩ = some (.string U.subs[k].name) ∧ w'.cell? ⟨b2, o2 + k * 7 + 5, none⟩ = some (.slice na2 U.subs[k].names.length nc2) ∧ w'.cell? ⟨b2, o2 + k * 7 + 6, none⟩ = some (.slice sa2 U.subs[k].subs.length sc2)) (v := ?_) rfl (by kernel_rfl) (by kernel_rfl) (by kernel_rfl) (fun _ _ _ h => h) (by kernel_rfl) (by assumption) (by kernel_rfl) rfl (by simp) (by rfl) ?_ (fun hV => ?_)
            rotate_left 1
            · (intro wq hq; obtain ⟨-, -, -, u, -⟩ := hq; go_simp; try with_reducible rfl)
            clear hU; have hU := hV; clear hV
            try simp only [Act.put, aput]
            refine AnyU.take (i := 6) (v := ?_) rfl (by kernel_rfl) (by kernel_rfl) (by kernel_rfl) (fun _ _ _ h => h) (by kernel_rfl) (by assumption) (by rfl) ?_ (fun hV => ?_)
            rotate_left 1
            · (intro wq; go_simp; try with_reducible rfl)
            clear hU; have hU := hV; clear hV
            try simp only [Act.put, aput]
            refine AnyU.take (i := 7) (v := ?_) rfl (by kernel_rfl) (by kernel_rfl) (by kernel_rfl) (fun _ _ _ h => h) (by kernel_rfl) (by assumption) (by rfl) ?_ (fun hV => ?_)
            rotate_left 1
            · (intro wq; go_simp; try with_reducible rfl)
            clear hU; have hU := hV; clear hV
            try simp only [Act.put, aput]
            refine AnyU.loadc (i := 8) (d := 14) [14] (Si := fun w' => w'.cell? ⟨w.heap.size, 0, none⟩ = some (.string E.m.name) ∧ w'.cell? ⟨w.heap.size, 1, none⟩ = some (.slice ia E.m.imps.length ic) ∧ w'.cell? ⟨w.heap.size, 2, none⟩ = some (.slice da E.m.decls.length dc) ∧ w'.cell? ⟨w.heap.size + 1, 6, none⟩ = some (.slice (some ⟨b2, o2, none⟩) U.subs.length ou) ∧ w'.cell? ⟨b2, o2 + k * 7, none⟩ = some (.int .i64 U.subs[k].kind) ∧ w'.cell? ⟨b2, o2 + k * 7 + 1, none⟩ = some (.string U.subs[k].pkg) ∧ w'.cell? ⟨b2, o2 + k * 7 + 2, none⟩ = some (.int .i64 U.subs[k].major) ∧ w'.cell? ⟨b2, o2 + k * 7 + 3, none⟩ = some (.string U.subs[k].mod) ∧ w'.cell? ⟨b2, o2 + k * 7 + 4, none⟩ = some (.string U.subs[k].name) ∧ w'.cell? ⟨b2, o2 + k * 7 + 5, none⟩ = some (.slice na2 U.subs[k].names.length nc2) ∧ w'.cell? ⟨b2, o2 + k * 7 + 6, none⟩ = some (.slice sa2 U.subs[k].subs.length sc2)) (v := ?_) rfl (by kernel_rfl) (by kernel_rfl) (by kernel_rfl) (fun _ _ _ h => h) (by kernel_rfl) (by assumption) (by kernel_rfl) rfl (by simp) (by rfl) ?_ (fun hV => ?_)
            rotate_left 1
            · (intro wq hq; obtain ⟨-, -, -, -, u0, u1, u2, u3, u4, u5, u6⟩ := hq; go_simp; try with_reducible rfl)
            clear hU; have hU := hV; clear hV
            try simp only [Act.put, aput]
            refine AnyU.take (i := 9) (v := ?_) rfl (by kernel_rfl) (by kernel_rfl) (by kernel_rfl) (fun _ _ _ h => h) (by kernel_rfl) (by assumption) (by rfl) ?_ (fun hV => ?_)
            rotate_left 1
            · (intro wq; go_simp; try with_reducible rfl)
            clear hU; have hU := hV; clear hV
            try simp only [Act.put, aput]
            refine AnyU.take (i := 10) (v := ?_) rfl (by kernel_rfl) (by kernel_rfl) (by kernel_rfl) (fun _ _ _ h => h) (by kernel_rfl) (by assumption) (by rfl) ?_ (fun hV => ?_)
            rotate_left 1
            · (intro wq; go_simp; try with_reducible rfl)
            clear hU; have hU := hV; clear hV
            try simp only [Act.put, aput]
            refine AnyU.take (i := 11) (v := .int .i64 (most - n)) rfl (by kernel_rfl) (by kernel_rfl) (by kernel_rfl) (fun _ _ _ h => h) (by kernel_rfl) (by assumption) (by rfl) ?_ (fun hV => ?_)
            · (intro wq; go_simp; first | done | go_num | (simp [IntKind.wrap, IntKind.bits, IntKind.signed]; omega))
            clear hU; have hU := hV; clear hV
            try simp only [Act.put, aput]
            refine AnyU.take (i := 12) (v := ?_) rfl (by kernel_rfl) (by kernel_rfl) (by kernel_rfl) (fun _ _ _ h => h) (by kernel_rfl) (by assumption) (by rfl) ?_ (fun hV => ?_)
            rotate_left 1
            · (intro wq; go_simp; try with_reducible rfl)
            clear hU; have hU := hV; clear hV
            try simp only [Act.put, aput]
            refine AnyU.take (i := 13) (v := .int .i64 (depth - 1)) rfl (by kernel_rfl) (by kernel_rfl) (by kernel_rfl) (fun _ _ _ h => h) (by kernel_rfl) (by assumption) (by rfl) ?_ (fun hV => ?_)
            · (intro wq; go_simp; first | done | go_num | (simp [IntKind.wrap, IntKind.bits, IntKind.signed]; omega))
            clear hU; have hU := hV; clear hV
            try simp only [Act.put, aput]
            refine AnyU.ready2 (i := 14) (j := 18) (by kernel_rfl) (AnyU.one rfl fun K hK => ?_) (AnyU.one rfl fun K hK => ?_)
            · go_simp
              go_at_call 77
              refine (HCH.out _ (Below.refl _ _).drew).mono ?_
              rintro e w2 ⟨cs3, y, n3, rfl, hpo, hty, hb⟩
              obtain ⟨na3, nc3, sa3, sc3, f3, rfl, -⟩ := hty.inv
              simp only [tyCells]
              have hb2 : Below wr.heap.size wr w2 := (Below.refl _ _).drew.trans hb
              clear hb m0 m1 m2 k6 c0 c1 c2 c3 c4 c5 c6
              refine hK.out _ _ (Until.offT (by kernel_rfl)) (fun hV => ?_)
              clear hK K hU
              have hU := hV
              clear hV
              try simp only [Act.put, aput]
              refine AnyU.take (i := 15) (v := ?_) rfl (by kernel_rfl) (by kernel_rfl) (by kernel_rfl) (fun _ _ _ h => h) (by kernel_rfl) (by assumption) (by rfl) ?_ (fun hV => ?_)
              rotate_left 1
              · (intro wq; go_simp; try with_reducible rfl)
              clear hU; have hU := hV; clear hV
              try simp only [Act.put, aput]
              refine AnyU.take (i := 16) (v := ?_) rfl (by kernel_rfl) (by kernel_rfl) (by kernel_rfl) (fun _ _ _ h => h) (by kernel_rfl) (by assumption) (by rfl) ?_ (fun hV => ?_)
              rotate_left 1
              · (intro wq; go_simp; try with_reducible rfl)
              clear hU; have hU := hV; clear hV
              try simp only [Act.put, aput]
              refine AnyU.take (i := 17) (v := ?_) rfl (by kernel_rfl) (by kernel_rfl) (by kernel_rfl) (fun _ _ _ h => h) (by kernel_rfl) (by assumption) (by rfl) ?_ (fun hV => ?_)
              rotate_left 1
              · (intro wq; go_simp; try with_reducible rfl)
              clear hU; have hU := hV; clear hV
              try simp only [Act.put, aput]
              refine AnyU.ready1 (i := 18) (by kernel_rfl) (AnyU.one rfl fun K hK => ?_)
              go_simp
              obtain ⟨zb, hbz, hzs⟩ := laidN w2 #[.int .i64 0, .string { data := #[] }, .int .i64 0, .string { data := #[] }, .string { data := #[] }, .slice none 0 0, .slice none 0 0] 29
              generalize hX3 : w2.alloc (.cells #[.int .i64 0, .string { data := #[] }, .int .i64 0, .string { data := #[] }, .string { data := #[] }, .slice none 0 0, .slice none 0 0] 29) = X3 at zb hbz hzs ⊢
              clear hX3
              refine hK.out _ _ (Until.offT (by kernel_rfl)) (fun hV => ?_)
              clear hK K hU
              have hU := hV
              clear hV
              try simp only [Act.put, aput]
              have hbX : Below wr.heap.size wr X3 := hb2.trans (hbz.mono hb2.size)
              have hgz : wr.heap.size ≤ w2.heap.size := hb2.size
              obtain ⟨d0, d1, d2, d3, d4, d5, d6⟩ := cellsT7 zb
              have f0 := zb.free 0
              have f1 := zb.free 1
              have f2 := zb.free 2
              have f3 := zb.free 3
              have f4 := zb.free 4
              have f5 := zb.free 5
              have f6 := zb.free 6
              have ld := zb.lt
              refine AnyU.ready1 (i := 19) (by kernel_rfl) (AnyU.one rfl fun K hK => ?_)
              go_simp
              have hp := pf7 (.int .i64 y.kind) (.string y.pkg) (.int .i64 y.major) (.string y.mod) (.string y.name) (.slice na3 y.names.length nc3) (.slice sa3 y.subs.length sc3) zb
              have hbp := pb7 (.int .i64 y.kind) (.string y.pkg) (.int .i64 y.major) (.string y.mod) (.string y.name) (.slice na3 y.names.length nc3) (.slice sa3 y.subs.length sc3) hbX hgz
              have htf := rx_fin2 (w := wr) (W := wr.drew) hty (Nat.le_refl _) (pb7 (.int .i64 y.kind) (.string y.pkg) (.int .i64 y.major) (.string y.mod) (.string y.name) (.slice na3 y.names.length nc3) (.slice sa3 y.subs.length sc3) hbz (Nat.le_refl _))
              generalize (((((((X3.setCell ⟨w2.heap.size, 0, none⟩ (.int .i64 y.kind)).setCell ⟨w2.heap.size, 1, none⟩ (.string y.pkg)).setCell ⟨w2.heap.size, 2, none⟩ (.int .i64 y.major)).setCell ⟨w2.heap.size, 3, none⟩ (.string y.mod)).setCell ⟨w2.heap.size, 4, none⟩ (.string y.name)).setCell ⟨w2.heap.size, 5, none⟩ (.slice na3 y.names.length nc3)).setCell ⟨w2.heap.size, 6, none⟩ (.slice sa3 y.subs.length sc3)) = Wf at hp hbp htf ⊢
              refine hK.out _ _ (Until.offT (by kernel_rfl)) (fun hV => ?_)
              clear hK K hU
              have hU := hV
              clear hV
              try simp only [Act.put, aput]
              refine AnyU.take (i := 20) (v := ?_) rfl (by kernel_rfl) (by kernel_rfl) (by kernel_rfl) (fun _ _ _ h => h) (by kernel_rfl) (by assumption) (by rfl) ?_ (fun hV => ?_)
              rotate_left 1
              · (intro wq; go_simp; try with_reducible rfl)
              clear hU; have hU := hV; clear hV
              try simp only [Act.put, aput]
              refine AnyU.done (by kernel_rfl) ?_
              go_wp2_with fail
              go_meet
              exact ⟨_, y, n3, na3, nc3, sa3, sc3, rfl, rfl, hgz, hp, hpo, htf, hbp⟩
            · go_simp
              obtain ⟨zb, hbz, hzs⟩ := laidD wr #[.int .i64 0, .string { data := #[] }, .int .i64 0, .string { data := #[] }, .string { data := #[] }, .slice none 0 0, .slice none 0 0] 29
              generalize hX3 : (wr.alloc (.cells #[.int .i64 0, .string { data := #[] }, .int .i64 0, .string { data := #[] }, .string { data := #[] }, .slice none 0 0, .slice none 0 0] 29)).drew = X3 at zb hbz hzs ⊢
              clear hX3
              have m0 := (hbz.cell (p := ⟨w.heap.size, 0, none⟩) ml).trans m0
              have m1 := (hbz.cell (p := ⟨w.heap.size, 1, none⟩) ml).trans m1
              have m2 := (hbz.cell (p := ⟨w.heap.size, 2, none⟩) ml).trans m2
              have k6 := (hbz.cell (p := ⟨w.heap.size + 1, 6, none⟩) kl).trans k6
              have c0 := (hbz.cell (p := ⟨b2, o2 + k * 7, none⟩) lb2).trans c0
              have c1 := (hbz.cell (p := ⟨b2, o2 + k * 7 + 1, none⟩) lb2).trans c1
              have c2 := (hbz.cell (p := ⟨b2, o2 + k * 7 + 2, none⟩) lb2).trans c2
              have c3 := (hbz.cell (p := ⟨b2, o2 + k * 7 + 3, none⟩) lb2).trans c3
              have c4 := (hbz.cell (p := ⟨b2, o2 + k * 7 + 4, none⟩) lb2).trans c4
              have c5 := (hbz.cell (p := ⟨b2, o2 + k * 7 + 5, none⟩) lb2).trans c5
              have c6 := (hbz.cell (p := ⟨b2, o2 + k * 7 + 6, none⟩) lb2).trans c6
              refine hK.out _ _ (Until.cons (fun _ => ⟨m0, m1, m2, k6, c0, c1, c2, c3, c4, c5, c6⟩) Until.nil) (fun hV => ?_)
              clear hK K hU
              have hU := hV
              clear hV
              try simp only [Act.put, aput]
              refine AnyU.ready1 (i := 14) (by kernel_rfl) (AnyU.one rfl fun K hK => ?_)
              go_simp
              go_at_call 77
              refine (HCH.out _ hbz).mono ?_
              rintro e w2 ⟨cs3, y, n3, rfl, hpo, hty, hb⟩
              obtain ⟨na3, nc3, sa3, sc3, f3, rfl, -⟩ := hty.inv
              simp only [tyCells]
              have hbX : Below wr.heap.size wr w2 := hbz.trans (hb.mono (by omega))
              have zb := zb.under hb zb.lt
              have hgz : wr.heap.size ≤ wr.heap.size := Nat.le_refl _
              clear hb m0 m1 m2 k6 c0 c1 c2 c3 c4 c5 c6
              refine hK.out _ _ (Until.offT (by kernel_rfl)) (fun hV => ?_)
              clear hK K hU
              have hU := hV
              clear hV
              try simp only [Act.put, aput]
              refine AnyU.take (i := 15) (v := ?_) rfl (by kernel_rfl) (by kernel_rfl) (by kernel_rfl) (fun _ _ _ h => h) (by kernel_rfl) (by assumption) (by rfl) ?_ (fun hV => ?_)
              rotate_left 1
              · (intro wq; go_simp; try with_reducible rfl)
              clear hU; have hU := hV; clear hV
              try simp only [Act.put, aput]
              refine AnyU.take (i := 16) (v := ?_) rfl (by kernel_rfl) (by kernel_rfl) (by kernel_rfl) (fun _ _ _ h => h) (by kernel_rfl) (by assumption) (by rfl) ?_ (fun hV => ?_)
              rotate_left 1
              · (intro wq; go_simp; try with_reducible rfl)
              clear hU; have hU := hV; clear hV
              try simp only [Act.put, aput]
              refine AnyU.take (i := 17) (v := ?_) rfl (by kernel_rfl) (by kernel_rfl) (by kernel_rfl) (fun _ _ _ h => h) (by kernel_rfl) (by assumption) (by rfl) ?_ (fun hV => ?_)
              rotate_left 1
              · (intro wq; go_simp; try with_reducible rfl)
              clear hU; have hU := hV; clear hV
              try simp only [Act.put, aput]
              obtain ⟨d0, d1, d2, d3, d4, d5, d6⟩ := cellsT7 zb
              have f0 := zb.free 0
              have f1 := zb.free 1
              have f2 := zb.free 2
              have f3 := zb.free 3
              have f4 := zb.free 4
              have f5 := zb.free 5
              have f6 := zb.free 6
              have ld := zb.lt
              refine AnyU.ready1 (i := 19) (by kernel_rfl) (AnyU.one rfl fun K hK => ?_)
              go_simp
              have hp := pf7 (.int .i64 y.kind) (.string y.pkg) (.int .i64 y.major) (.string y.mod) (.string y.name) (.slice na3 y.names.length nc3) (.slice sa3 y.subs.length sc3) zb
              have hbp := pb7 (.int .i64 y.kind) (.string y.pkg) (.int .i64 y.major) (.string y.mod) (.string y.name) (.slice na3 y.names.length nc3) (.slice sa3 y.subs.length sc3) hbX hgz
              have hcc := fun (p : Addr) (hp : p.block ≠ wr.heap.size) => pc7 (w := w2) (.int .i64 y.kind) (.string y.pkg) (.int .i64 y.major) (.string y.mod) (.string y.name) (.slice na3 y.names.length nc3) (.slice sa3 y.subs.length sc3) hp
              have hsf := ps7 w2 (g := wr.heap.size) (.int .i64 y.kind) (.string y.pkg) (.int .i64 y.major) (.string y.mod) (.string y.name) (.slice na3 y.names.length nc3) (.slice sa3 y.subs.length sc3)
              have htf := rx_fin (w := wr) hty (by omega) (by omega) hsf hcc
              clear hcc hsf
              generalize (((((((w2.setCell ⟨wr.heap.size, 0, none⟩ (.int .i64 y.kind)).setCell ⟨wr.heap.size, 1, none⟩ (.string y.pkg)).setCell ⟨wr.heap.size, 2, none⟩ (.int .i64 y.major)).setCell ⟨wr.heap.size, 3, none⟩ (.string y.mod)).setCell ⟨wr.heap.size, 4, none⟩ (.string y.name)).setCell ⟨wr.heap.size, 5, none⟩ (.slice na3 y.names.length nc3)).setCell ⟨wr.heap.size, 6, none⟩ (.slice sa3 y.subs.length sc3)) = Wf at hp hbp htf ⊢
              refine hK.out _ _ (Until.offT (by kernel_rfl)) (fun hV => ?_)
              clear hK K hU
              have hU := hV
              clear hV
              try simp only [Act.put, aput]
              refine AnyU.take (i := 20) (v := ?_) rfl (by kernel_rfl) (by kernel_rfl) (by kernel_rfl) (fun _ _ _ h => h) (by kernel_rfl) (by assumption) (by rfl) ?_ (fun hV => ?_)
              rotate_left 1
              · (intro wq; go_simp; try with_reducible rfl)
              clear hU; have hU := hV; clear hV
              try simp only [Act.put, aput]
              refine AnyU.done (by kernel_rfl) ?_
              go_wp2_with fail
              go_meet
              exact ⟨_, y, n3, na3, nc3, sa3, sc3, rfl, rfl, hgz, hp, hpo, htf, hbp⟩
          case rest =>
            rename World => w4
            obtain ⟨b4, y, n3, na3, nc3, sa3, sc3, rfl, rfl, hgb, hb4, hpo, hty, hbw⟩ := hcut
            clear c0 c1 c2 c3 c4 c5 c6 m0 m1 m2 ml k0 k1 k2 k3 k4 k5 k6 kl
            have B4 := Lib.hid hbw
            have HTY := Lib.hid hty
            have hs4 : wr.heap.size ≤ w4.heap.size := hbw.size
            rcases hpo with ⟨hfit, rfl, rfl⟩ | ⟨hnf, rfl, rfl⟩
            · have hmp := many_pos y
              have hne : ¬ manyT y = 0 := by omega
              have hneb : (manyT y == 0) = false := by simp [hne]
              have HEN := Lib.hid (show ExK xs most depth (k + 1) (n + manyT y) by have := HEX.out.next hkx (by rw [hy0]; exact hfit); rwa [hy0] at this)
              have HYN := Lib.hid (show ys ++ [y] = xs.take (k + 1) by rw [HYS.out, ← hy0]; exact (List.take_succ_eq_append_getElem hkx).symm)
              have hbx := HR.out.box.under hbw HR.out.box.lt
              have HRW := Lib.hid (HR.out.rows.under hbw (Nat.zero_le _))
              have g6 := hbx.cell 6
              simp at g6
              have hbnd : manyT y ≤ 500 := by have := hfit.1; omega
              obtain ⟨q0, q1, q2, q3, q4, q5, q6⟩ := cellsT7 hb4
              have ql := hb4.lt
              have gl := hbx.lt
              obtain ⟨hX3, hbS3, hszX3⟩ := laid0 w4 #[.int .i64 y.kind, .string y.pkg, .int .i64 y.major, .string y.mod, .string y.name, .slice na3 y.names.length nc3, .slice sa3 y.subs.length sc3] 29
              have hown3 := owns_under (by have h := HRW.out.row; rw [HR.out.len] at h; exact h) hX3
              have HX3 := Lib.hid hX3
              have HS3 := Lib.hid hbS3
              have HZ3 := Lib.hid hszX3
              have HO3 := Lib.hid hown3
              have HB3 := Lib.hid (hbx.under hX3 hbx.lt)
              have hone7 : ∀ u ∈ (#[.int .i64 y.kind, .string y.pkg, .int .i64 y.major, .string y.mod, .string y.name, .slice na3 y.names.length nc3, .slice sa3 y.subs.length sc3] : Array Value).toList, u.oneCell' = true := by simp [Value.oneCell']
              have HONE := Lib.hid hone7
              have HSB := Lib.hid (show sv.ownBlock ≠ some wx.heap.size from fun e => by have := owns_lt HRW.out.row e; omega)
              clear hb4 hbw hty hbx hfit hX3 hbS3 hszX3 hown3 hone7 hy0
              go_upto_region 22 with (at_builtin; go_loud (refine wpList_append_lies _ rfl _ _ 27 rfl (wx.heap.size + 1) 29 iS (.agg zeroCells) 7 112 Tryz.underlying27 hiS hzS0 hzS1 hzS2 rfl (by decide) sv k (F.flatMap (·.toList)) rfl HO3.out ⟨w4.heap.size, 0, none⟩ 1 1 (#[.int .i64 y.kind, .string y.pkg, .int .i64 y.major, .string y.mod, .string y.name, .slice na3 y.names.length nc3, .slice sa3 y.subs.length sc3] : Array Value).toList rfl rfl (World.news_of_block HS3.out) HONE.out (by decide) (by unfold maxLen; omega) (by omega) (by rw [HZ3.out]; omega) _ rfl ?_; intro gS cS x4 hownS hgS hatS hltS; have hb4 := grown_box hgS HB3.out HSB.out; have r6 := hb4.cell 6; have rf6 := hb4.free 6; have rl := hb4.lt; simp at r6; have HOW := Lib.hid hownS; have HGR := Lib.hid hgS; have HAT := Lib.hid hatS; clear hownS hgS hatS hb4 q0 q1 q2 q3 q4 q5 q6 ql g6 gl))
              clear r6 rf6 rl
              have hnx := HR.out.next B4.out HTY.out HX3.out HGR.out HOW.out (HAT.out.imp id fun e => by rw [e]; exact HX3.out.size)
              have HNX := Lib.hid hnx
              generalize (x4.setCell ⟨wx.heap.size, 6, none⟩ (.slice (some ⟨gS, 0, none⟩) (k + 1) cS)) = Wz at HNX ⊢
              clear hnx
              go_wp2_with fail
              first
                | exact ⟨⟨k + 1, _, _, _, _, by omega, by go_num, rfl, HYN.out, HEN.out, HNX.out⟩, by simp [intOf]; omega⟩
                | (go_roundw
                   case rel => exact ⟨k + 1, _, _, _, _, by omega, by go_num, rfl, HYN.out, HEN.out, HNX.out⟩
                   case measure => simp [intOf]; omega)
            · have HNF := Lib.hid (HEX.out.stop hkx (by rw [hy0]; exact hnf) U.kind U.pkg U.major U.mod U.name U.names)
              have hres := HR.out.res.under hbw HR.out.res.lt
              have HRES := Lib.hid hres
              obtain ⟨e0, e1, e2, e3, e4, e5, e6⟩ := cellsT7 hres
              have f0 := hres.free 0
              have f1 := hres.free 1
              have f2 := hres.free 2
              have f3 := hres.free 3
              have f4 := hres.free 4
              have f5 := hres.free 5
              have f6 := hres.free 6
              have el := hres.lt
              have BZ := Lib.hid (BR.out.trans (hbw.mono hsr))
              clear hb4 hbw hty hnf hres hy0
              have HSR := Lib.hid hsr
              clear h01 h02 p1 p2 p3 p4 hn1 hn2 hsx hgl hsz hltI hnl hsl hk hs4 hgb hk0 hkx lb2 hbb2 hsr
              clear hi hz0 hz1 hz2 hiS hzS0 hzS1 hzS2
              go_wp2_with fail
              obtain ⟨Wz, hWq, hp, hbp⟩ := st7 (.int .i64 0) (.string { data := #[] }) (.int .i64 0) (.string { data := #[] }) (.string { data := #[] }) (.slice none 0 0) (.slice none 0 0) HRES.out BZ.out (show w.heap.size ≤ w.heap.size + 1 + 1 by omega)
              rewrite [← hWq]; clear hWq
              obtain ⟨r0, r1, r2, r3, r4, r5, r6⟩ := cellsT7 hp
              refine bodyPost_ret (by simp [results, Tryz.results77, go_sem, r0, r1, r2, r3, r4, r5, r6]; try rfl) rfl ?_
              exact ⟨_, zT, 0, rfl, .inr ⟨HNF.out, rfl, rfl⟩, zT_m _ _, hbp⟩
        · obtain rfl : k = U.subs.length := by omega
          obtain ⟨sa9, sc9, rfl, hlast⟩ := HR.out.last HF.out
          have HLA := Lib.hid hlast
          have hltI : ¬ (U.subs.length : Int) < (U.subs.length : Int) := by omega
          obtain ⟨hfit, hnm⟩ := (show ExK xs most depth xs.length n from hxl ▸ HEX.out).last (by omega) U.kind U.pkg U.major U.mod U.name U.names
          have HFI := Lib.hid hfit
          have HNM := Lib.hid hnm
          have hbo := HR.out.box
          have hres := HR.out.res
          have HRES := Lib.hid hres
          obtain ⟨g0, g1, g2, g3, g4, g5, g6⟩ := cellsT7 hbo
          have gl := hbo.lt
          obtain ⟨e0, e1, e2, e3, e4, e5, e6⟩ := cellsT7 hres
          have f0 := hres.free 0
          have f1 := hres.free 1
          have f2 := hres.free 2
          have f3 := hres.free 3
          have f4 := hres.free 4
          have f5 := hres.free 5
          have f6 := hres.free 6
          have el := hres.lt
          clear hlast hfit hnm hbo hres m0 m1 m2 ml k0 k1 k2 k3 k4 k5
          go_upto_region 23 with fail
          clear k6 kl
          have HGL := Lib.hid hgl
          clear h01 h02 p1 p2 p3 p4 hn1 hn2 hsx hgl hsz hltI hnl hsl hk
          clear hi hz0 hz1 hz2 hiS hzS0 hzS1 hzS2
          go_wp2_with fail
          have hgl := HGL.out
          obtain ⟨Wz, hWq, hp, hbp, hfz⟩ := sf7 (.int .i64 U.kind) (.string U.pkg) (.int .i64 U.major) (.string U.mod) (.string U.name) (.slice A1 U.names.length c1) (.slice sa9 U.subs.length sc9) HRES.out BR.out (show w.heap.size ≤ w.heap.size + 1 + 1 by omega)
          rewrite [← hWq]; clear hWq
          obtain ⟨r0, r1, r2, r3, r4, r5, r6⟩ := cellsT7 hp
          refine bodyPost_ret (by simp [results, Tryz.results77, go_sem, r0, r1, r2, r3, r4, r5, r6]; try rfl) rfl ?_
          refine ⟨_, .mk U.kind U.pkg U.major U.mod U.name U.names ys, n, rfl, .inl ⟨HFI.out, ?_, HNM.out⟩, HLA.out.move (fun b hb => ⟨by have := hb.1; omega, Nat.lt_of_lt_of_le hb.2 hfz.size⟩) (fun p hp => hfz.cell hp.2 (fun e => by have := hp.1; have e : p.block = w.heap.size + 1 + 1 := e; omega)), hbp⟩
          rw [HYS.out, ← hxl, List.take_length]
theorem rex_c {E : Env} (hd : ∀ d ∈ E.m.decls, dclOk d = true) (h1 : smallB E.pkg = true) (h2 : 1 ≤ E.major) (h3 : E.major ≤ 999999999) (h4 : smallB E.m.name = true) (h5 : E.pkg.size ≤ maxLen) {t x : Ty} (h : Exp E t x) : allT t = true → RexF E t x := by
  induction h with
  | alias h8 hm hdd hk _ ih => exact fun _ => rex_alias h8 hm hdd hk (ih (may_all (dcl_alias (hd _ (declOf_mem hdd).1) hk).2).1)
  | @opn t d h8 hm hdd hk =>
    intro ht
    rw [allT_eq, Bool.and_eq_true] at ht
    have hall : allT (openT E t.name) = true := by rw [allT_eq, shape_open h1 h2 h3 h4 (shape_great ht.1 h8)]; rfl
    exact rex_go (U := openT E t.name) (xs := []) (.inr ⟨h8, hm, ⟨d, hdd, hk⟩, rfl⟩) hall rfl (fun i hi => absurd hi (by simp [openT, Ty.subs])) h5 ⟨by omega, by omega⟩
  | there h8 hm hp _ ih => exact fun _ => rex_there h8 hm (ih (may_all (plain_of (plain_there hp)).1).1)
  | @node t xs h8 hl _ ih =>
    intro ht
    have ht2 := ht
    rw [allT_eq, Bool.and_eq_true] at ht2
    exact rex_go (U := t) (.inl ⟨h8, rfl⟩) ht hl (fun i h1 h2 => ih i h1 h2 (allX_mem ht2.2 (List.getElem_mem h1))) h5 ⟨by omega, by omega⟩
end Go.Proofs.YtjeldfipipkfiaaGreatDoor
