/- The contract of sub.either, by what bound does at the parts. -/
import Derived.Test.YtalpmjmifcofeaaEithA
import Derived.Deep.RegionLaw
import Derived.Deep.DeepCutAuto
import Derived.Deep.Cut
import Derived.Deep.CutBlock
namespace Go.Proofs.Ytalpmjmifcofeaa
open Go.RowKit
set_option linter.unusedSimpArgs false
set_option linter.unusedVariables false
theorem eith0_mk {w W4 w3 : World} {a b : Ty} {na sa na' sa' : Option Addr} {nc sc nc' sc' : Nat} {o : Obj} {v3 : Value} (x0 : Blk W4 w.heap.size (tyCells a na nc sa sc) 25) (x1 : Blk W4 (w.heap.size + 1) (tyCells b na' nc' sa' sc') 25)
    (x2 : Blk W4 (w.heap.size + 1 + 1) #[.int .i64 0, .string { data := #[] }, .int .i64 0, .string { data := #[] }, .string { data := #[] }, .slice none 0 0, .slice none 0 0] 25)
    (x3 : Blk W4 (w.heap.size + 1 + 1 + 1) #[.int .i64 a.kind, .string { data := #[] }, .int .i64 0, .string { data := #[] }, .string { data := #[] }, .slice none 0 0, .slice none 0 0] 25)
    (xs : W4.heap.size = w.heap.size + 4) (xb : Below w.heap.size w W4) (hb3 : Below (W4.alloc o).heap.size (W4.alloc o) w3)
    (hown : w3.ownsRow (W4.alloc o).heap.size 9 1 v3 (unionN a.names b.names).length ((unionN a.names b.names).map Value.string)) :
    ∃ A c, v3 = .slice A (unionN a.names b.names).length c ∧ Eith0 w w3 a b na nc sa sc na' nc' sa' sc' A := by
  have hz : (W4.alloc o).heap.size = w.heap.size + 5 := by simp; omega
  have hk : ∀ {bb C T}, bb < w.heap.size + 4 → Blk W4 bb C T → Blk w3 bb C T := fun hb h => (h.alloc o).under hb3 (by omega)
  have s3 := hb3.size
  have hbel : Below w.heap.size w w3 := (xb.alloc (by omega) o).trans (hb3.mono (by omega))
  have mk : ∀ A, (∀ i (h : i < (unionN a.names b.names).length), ∃ g, A = some ⟨g, 0, none⟩ ∧ w.heap.size + 4 ≤ g ∧ w3.cell? ⟨g, i, none⟩ = some (.string (unionN a.names b.names)[i])) → Eith0 w w3 a b na nc sa sc na' nc' sa' sc' A :=
    fun A hA => ⟨hbel, by omega, hk (by omega) x0, hk (by omega) x1, hk (by omega) x2, hk (by omega) x3, hA⟩
  have h1 := hown
  obtain ⟨hl, ⟨hv, h0⟩ | ⟨g, cap, cur, hv, hg, hh, hn, -⟩⟩ := hown
  · exact ⟨none, 0, by rw [hv, h0], mk _ fun i h => by omega⟩
  · subst hv
    refine ⟨_, cap, rfl, mk _ fun i h => ⟨g, rfl, by omega, ?_⟩⟩
    rw [owns_cell h1 (by omega)]
    simp [h]
set_option maxRecDepth 100000 in
set_option maxHeartbeats 40000000 in
theorem either_c (r : Ty → Ty → Option Ty) (a b : Ty) (up : Bool) (cs cs' : Array Value) (B : Nat) (w : World) (ha : TyC w B a cs) (hb : TyC w B b cs') (hB : B ≤ w.heap.size)
    (hra : RowsOk a) (hrb : RowsOk b) (hla : a.subs.length ≤ 20) (hlb : b.subs.length ≤ 20) (hbd : ∀ x y, x ∈ a.subs → y ∈ b.subs → BoundAt x y up (r x y)) :
    Calls Try.prog 60 #[.agg cs, .agg cs', .bool up] w fun e w' => (∃ t cs'', e = .returned (.tuple #[.agg cs'', .bool (eitherR r a b).isSome]) ∧ (∀ x, eitherR r a b = some x → t = x) ∧ TyM w' (fun b => b < B ∨ Fresh w w' b) t cs'') ∧ Below w.heap.size w w' := by
  have HI := Lib.hid hbd
  have HRA := Lib.hid hra
  have HRB := Lib.hid hrb
  have hna := hra.len
  have hnb' := hrb.len
  obtain ⟨na, nc, sa, sc, f, rfl, hfa, hn, hs, -, -, hsub⟩ := ha.inv
  obtain ⟨na', nc', sa', sc', f', rfl, hfb, hn', hs', -, -, hsub'⟩ := hb.inv
  have HA := Lib.hid ha
  have HB := Lib.hid hb
  have HF := Lib.hid hfa
  have HF' := Lib.hid hfb
  have HN := Lib.hid hn
  have HN' := Lib.hid hn'
  clear ha hb hn hs hsub hn' hs' hsub' hbd hfa hfb hra hrb
  obtain ⟨iN, hiN, hzN0, hzN1, hzN2⟩ := info_parts info_str
  obtain ⟨iS, hiS, hzS0, hzS1, hzS2⟩ := info_parts info_type
  go_enter Try.func60, Try.ntmps60
  simp only [tyCells]
  go_wp2_with fail
  have h4 := boxes4 w #[.int .i64 a.kind, .string a.pkg, .int .i64 a.major, .string a.mod, .string a.name, .slice na a.names.length nc, .slice sa a.subs.length sc] #[.int .i64 b.kind, .string b.pkg, .int .i64 b.major, .string b.mod, .string b.name, .slice na' b.names.length nc', .slice sa' b.subs.length sc'] #[.int .i64 0, .string { data := #[] }, .int .i64 0, .string { data := #[] }, .string { data := #[] }, .slice none 0 0, .slice none 0 0] #[.int .i64 a.kind, .string { data := #[] }, .int .i64 0, .string { data := #[] }, .string { data := #[] }, .slice none 0 0, .slice none 0 0] 25
  generalize ((((w.alloc (.cells #[.int .i64 a.kind, .string a.pkg, .int .i64 a.major, .string a.mod, .string a.name, .slice na a.names.length nc, .slice sa a.subs.length sc] 25)).alloc (.cells #[.int .i64 b.kind, .string b.pkg, .int .i64 b.major, .string b.mod, .string b.name, .slice na' b.names.length nc', .slice sa' b.subs.length sc'] 25)).alloc (.cells #[.int .i64 0, .string { data := #[] }, .int .i64 0, .string { data := #[] }, .string { data := #[] }, .slice none 0 0, .slice none 0 0] 25)).alloc (.cells #[.int .i64 a.kind, .string { data := #[] }, .int .i64 0, .string { data := #[] }, .string { data := #[] }, .slice none 0 0, .slice none 0 0] 25)) = W4 at h4 ⊢
  obtain ⟨x0, x1, x2, x3, xs, xb⟩ := h4
  have hsl := Blk.new W4 #[.slice na a.names.length nc, .slice na' b.names.length nc'] 22
  rw [xs] at hsl
  have hg0 := hsl.cell 0
  have hg1 := hsl.cell 1
  simp at hg0 hg1
  have hz5 : (W4.alloc (.cells #[.slice na a.names.length nc, .slice na' b.names.length nc'] 22)).heap.size = w.heap.size + 5 := by simp; omega
  have hb5 : Below w.heap.size w (W4.alloc (.cells #[.slice na a.names.length nc, .slice na' b.names.length nc'] 22)) := xb.alloc (by omega) _
  have XX := Lib.hid (And.intro x0 (And.intro x1 (And.intro x2 (And.intro x3 (And.intro xs xb)))))
  have hcat := cat_c (w.heap.size + 1 + 1 + 1 + 1) na na' nc nc' B a.names b.names (W4.alloc (.cells #[.slice na a.names.length nc, .slice na' b.names.length nc'] 22)) (HN.out.keep fun p hp => hb5.cell (p := p) (by omega)) (HN'.out.keep fun p hp => hb5.cell (p := p) (by omega)) (by omega) hg0 hg1 (by omega) (by omega) (by omega)
  have HCAT := Lib.hid hcat
  clear x0 x1 x2 x3 xs xb hcat hg0 hg1 hsl hz5 hb5
  refine HCAT.out.mono ?_
  rintro e w1 ⟨v1, rfl, hown1, hb1⟩
  have HO1 := Lib.hid (And.intro hown1 hb1)
  clear hown1 hb1
  go_wp2_with fail
  refine (sortU_c HO1.out.1 HO1.out.2 (by omega)).mono ?_
  rintro e w2 ⟨rfl, hown2, hb2⟩
  have HO2 := Lib.hid (And.intro hown2 hb2)
  clear hown2 hb2
  go_wp2_with fail
  refine (compU_c HO2.out.1 HO2.out.2 (by omega)).mono ?_
  rintro e w3 ⟨v3, rfl, hown3, hb3⟩
  obtain ⟨A, c3, rfl, h0⟩ := eith0_mk XX.out.1 XX.out.2.1 XX.out.2.2.1 XX.out.2.2.2.1 XX.out.2.2.2.2.1 XX.out.2.2.2.2.2 hb3 hown3
  have H0 := Lib.hid h0
  have hul := unionN_len a.names b.names
  have hst : EithRel w w3 w3 a b B r (.slice none 0 0) (.slice none 0 0) [] [] 0 := ⟨World.grownBy.refl _ _, h0.out, Out2.nil _ _ _, rfl⟩
  have HST := Lib.hid hst
  clear XX HCAT HO1 HO2 hown3 hb3 h0 hst
  go_wp2_with fail
  go_loopw [32] (fun i wr => ∃ (k : Nat) (nv sv : Value) (L : List (ByteArray × Ty)) (F : List (Array Value)), k ≤ (unionN a.names b.names).length ∧ i = .int .i64 k ∧ EithRel w w3 wr a b B r nv sv L F k) (fun i _ => (unionN a.names b.names).length - (intOf i).toNat)
  case atStart => exact ⟨0, _, _, _, _, Nat.zero_le _, rfl, HST.out⟩
  case round =>
    clear HST
    obtain ⟨k, nv, sv, L, F, hk, rfl, hr⟩ := hrel
    have HR := Lib.hid hr
    have hacc := hr.below H0.out
    have hsz := H0.out.size
    have hgz := hr.grown.size
    by_cases hlt : k < (unionN a.names b.names).length
    · obtain ⟨g, rfl, hcn⟩ := hr.name H0.out hlt
      have ba := hr.blk H0.out.boxa (by omega)
      have bb := hr.blk H0.out.boxb (by omega)
      have a0 := ba.cell 0
      have b0 := bb.cell 0
      have a1 := ba.cell 1
      have b1 := bb.cell 1
      have a2 := ba.cell 2
      have b2 := bb.cell 2
      have a3 := ba.cell 3
      have b3 := bb.cell 3
      have a4 := ba.cell 4
      have b4 := bb.cell 4
      have a5 := ba.cell 5
      have b5 := bb.cell 5
      have a6 := ba.cell 6
      have b6 := bb.cell 6
      simp [tyCells] at a0 a1 a2 a3 a4 a5 a6 b0 b1 b2 b3 b4 b5 b6
      have hltI : (k : Int) < ((unionN a.names b.names).length : Int) := by omega
      have hLL := hr.len
      have hmu := List.getElem_mem hlt
      generalize hs : (unionN a.names b.names)[k] = s at hcn hmu
      have HS := Lib.hid hs
      have HMU := Lib.hid hmu
      clear hr hs hmu ba bb
      go_wp2_with fail
      refine (of_c a s _ B wr (HA.out.under (hacc.mono hB)) (by omega) HRA.out).mono ?_
      rintro e w4 ⟨⟨cx, rfl, htx⟩, hb4⟩
      have b0 := (hb4.cell (p := ⟨w.heap.size + 1, 0, none⟩) (by simp; omega)).trans b0
      have b1 := (hb4.cell (p := ⟨w.heap.size + 1, 1, none⟩) (by simp; omega)).trans b1
      have b2 := (hb4.cell (p := ⟨w.heap.size + 1, 2, none⟩) (by simp; omega)).trans b2
      have b3 := (hb4.cell (p := ⟨w.heap.size + 1, 3, none⟩) (by simp; omega)).trans b3
      have b4 := (hb4.cell (p := ⟨w.heap.size + 1, 4, none⟩) (by simp; omega)).trans b4
      have b5 := (hb4.cell (p := ⟨w.heap.size + 1, 5, none⟩) (by simp; omega)).trans b5
      have b6 := (hb4.cell (p := ⟨w.heap.size + 1, 6, none⟩) (by simp; omega)).trans b6
      have hq1 : w.heap.size + 1 < w4.heap.size := by have := hb4.size; omega
      generalize hX : ofT a s = X at htx
      generalize hma : memB s a.names = ma
      obtain ⟨na1, nc1, sa1, sc1, f1, rfl, -⟩ := htx.inv
      have HTX := Lib.hid htx
      have HB4 := Lib.hid hb4
      have HX := Lib.hid hX
      have HMA := Lib.hid hma
      clear htx hb4 hX hma a0 a1 a2 a3 a4 a5 a6 hcn
      simp only [tyCells]
      go_wp2_with fail
      have hs4 := HB4.out.size
      have hbx4 := Blk.new w4 #[.int .i64 X.kind, .string X.pkg, .int .i64 X.major, .string X.mod, .string X.name, .slice na1 X.names.length nc1, .slice sa1 X.subs.length sc1] 25
      have hb5 : Below wr.heap.size wr (w4.alloc (.cells #[.int .i64 X.kind, .string X.pkg, .int .i64 X.major, .string X.mod, .string X.name, .slice na1 X.names.length nc1, .slice sa1 X.subs.length sc1] 25)) := HB4.out.alloc hs4 _
      have htx5 := HTX.out.alloc (by omega) (.cells #[.int .i64 X.kind, .string X.pkg, .int .i64 X.major, .string X.mod, .string X.name, .slice na1 X.names.length nc1, .slice sa1 X.subs.length sc1] 25)
      generalize hxb : w4.heap.size = xb at hbx4 hs4 ⊢
      generalize (w4.alloc (.cells #[.int .i64 X.kind, .string X.pkg, .int .i64 X.major, .string X.mod, .string X.name, .slice na1 X.names.length nc1, .slice sa1 X.subs.length sc1] 25)) = W5 at hbx4 hb5 htx5 ⊢
      have HB5 := Lib.hid hb5
      have HBX4 := Lib.hid hbx4
      have HTX5 := Lib.hid htx5
      have hs5 := hb5.size
      clear hbx4 hb5 htx5 hxb b0 b1 b2 b3 b4 b5 b6
      refine (of_c b s _ B W5 (HB.out.under ((acc0 hacc hacc.size HB5.out).mono hB)) (by omega) HRB.out).mono ?_
      rintro e w6 ⟨⟨cy, rfl, hty⟩, hb6⟩
      have hbx6 := HBX4.out.under hb6 HBX4.out.lt
      have x0 := hbx6.cell 0
      have x1 := hbx6.cell 1
      have x2 := hbx6.cell 2
      have x3 := hbx6.cell 3
      have x4 := hbx6.cell 4
      have x5 := hbx6.cell 5
      have x6 := hbx6.cell 6
      simp at x0 x1 x2 x3 x4 x5 x6
      have hq2 : xb < w6.heap.size := HBX4.out.under hb6 HBX4.out.lt |>.lt
      generalize hY : ofT b s = Y at hty
      generalize hmb : memB s b.names = mb
      obtain ⟨na2, nc2, sa2, sc2, f2, rfl, -⟩ := hty.inv
      have HY := Lib.hid hY
      have HMB := Lib.hid hmb
      have HB6 := Lib.hid hb6
      have hs6 := hb6.size
      have htx6 := HTX5.out.under (hb6.mono (by omega))
      have HTX6 := Lib.hid htx6
      have HTY6 := Lib.hid hty
      have HBX6 := Lib.hid hbx6
      clear hbx6 hY hmb hb6 htx6 hty
      simp only [tyCells]
      go_upto_block 2 with fail
      have hk9 := fun (bb : Nat) (C : Array Value) (T : TypeId) (h : Blk w6 bb C T) => (h.alloc (.cells #[.int .i64 Y.kind, .string Y.pkg, .int .i64 Y.major, .string Y.mod, .string Y.name, .slice na2 Y.names.length nc2, .slice sa2 Y.subs.length sc2] 25)).alloc (.cells #[.int .i64 X.kind, .string X.pkg, .int .i64 X.major, .string X.mod, .string X.name, .slice na1 X.names.length nc1, .slice sa1 X.subs.length sc1] 25)
      have hbx9 := hk9 _ _ _ HBX6.out
      have hby9 := (Blk.new w6 #[.int .i64 Y.kind, .string Y.pkg, .int .i64 Y.major, .string Y.mod, .string Y.name, .slice na2 Y.names.length nc2, .slice sa2 Y.subs.length sc2] 25).alloc (.cells #[.int .i64 X.kind, .string X.pkg, .int .i64 X.major, .string X.mod, .string X.name, .slice na1 X.names.length nc1, .slice sa1 X.subs.length sc1] 25)
      have hbz9 := Blk.new (w6.alloc (.cells #[.int .i64 Y.kind, .string Y.pkg, .int .i64 Y.major, .string Y.mod, .string Y.name, .slice na2 Y.names.length nc2, .slice sa2 Y.subs.length sc2] 25)) #[.int .i64 X.kind, .string X.pkg, .int .i64 X.major, .string X.mod, .string X.name, .slice na1 X.names.length nc1, .slice sa1 X.subs.length sc1] 25
      have e6 : (w6.alloc (.cells #[.int .i64 Y.kind, .string Y.pkg, .int .i64 Y.major, .string Y.mod, .string Y.name, .slice na2 Y.names.length nc2, .slice sa2 Y.subs.length sc2] 25)).heap.size = w6.heap.size + 1 := by simp
      rw [e6] at hbz9
      have hb9 : Below wr.heap.size wr ((w6.alloc (.cells #[.int .i64 Y.kind, .string Y.pkg, .int .i64 Y.major, .string Y.mod, .string Y.name, .slice na2 Y.names.length nc2, .slice sa2 Y.subs.length sc2] 25)).alloc (.cells #[.int .i64 X.kind, .string X.pkg, .int .i64 X.major, .string X.mod, .string X.name, .slice na1 X.names.length nc1, .slice sa1 X.subs.length sc1] 25)) := ((acc0 HB5.out HB5.out.size HB6.out).alloc (by omega) _).alloc (by omega) _
      have hX9 := (HTX6.out.alloc (by omega) (.cells #[.int .i64 Y.kind, .string Y.pkg, .int .i64 Y.major, .string Y.mod, .string Y.name, .slice na2 Y.names.length nc2, .slice sa2 Y.subs.length sc2] 25)).alloc (by omega) (.cells #[.int .i64 X.kind, .string X.pkg, .int .i64 X.major, .string X.mod, .string X.name, .slice na1 X.names.length nc1, .slice sa1 X.subs.length sc1] 25)
      have hY9 := (HTY6.out.alloc (by omega) (.cells #[.int .i64 Y.kind, .string Y.pkg, .int .i64 Y.major, .string Y.mod, .string Y.name, .slice na2 Y.names.length nc2, .slice sa2 Y.subs.length sc2] 25)).alloc (by omega) (.cells #[.int .i64 X.kind, .string X.pkg, .int .i64 X.major, .string X.mod, .string X.name, .slice na1 X.names.length nc1, .slice sa1 X.subs.length sc1] 25)
      have hz9 : ((w6.alloc (.cells #[.int .i64 Y.kind, .string Y.pkg, .int .i64 Y.major, .string Y.mod, .string Y.name, .slice na2 Y.names.length nc2, .slice sa2 Y.subs.length sc2] 25)).alloc (.cells #[.int .i64 X.kind, .string X.pkg, .int .i64 X.major, .string X.mod, .string X.name, .slice na1 X.names.length nc1, .slice sa1 X.subs.length sc1] 25)).heap.size = w6.heap.size + 2 := by simp
      have hlx := HBX6.out.lt
      generalize hyb : w6.heap.size = yb at hby9 hbz9 hz9 hs6 hlx ⊢
      generalize ((w6.alloc (.cells #[.int .i64 Y.kind, .string Y.pkg, .int .i64 Y.major, .string Y.mod, .string Y.name, .slice na2 Y.names.length nc2, .slice sa2 Y.subs.length sc2] 25)).alloc (.cells #[.int .i64 X.kind, .string X.pkg, .int .i64 X.major, .string X.mod, .string X.name, .slice na1 X.names.length nc1, .slice sa1 X.subs.length sc1] 25)) = W9 at hbx9 hby9 hbz9 hb9 hX9 hY9 hz9 ⊢
      clear hk9 e6 hyb HBX6 HTX6 HTY6 HB6 HB5 HBX4 HTX5 x0 x1 x2 x3 x4 x5 x6
      have x0 := hbx9.cell 0
      have y0 := hby9.cell 0
      have z0 := hbz9.cell 0
      have zf0 := hbz9.free 0
      have x1 := hbx9.cell 1
      have y1 := hby9.cell 1
      have z1 := hbz9.cell 1
      have zf1 := hbz9.free 1
      have x2 := hbx9.cell 2
      have y2 := hby9.cell 2
      have z2 := hbz9.cell 2
      have zf2 := hbz9.free 2
      have x3 := hbx9.cell 3
      have y3 := hby9.cell 3
      have z3 := hbz9.cell 3
      have zf3 := hbz9.free 3
      have x4 := hbx9.cell 4
      have y4 := hby9.cell 4
      have z4 := hbz9.cell 4
      have zf4 := hbz9.free 4
      have x5 := hbx9.cell 5
      have y5 := hby9.cell 5
      have z5 := hbz9.cell 5
      have zf5 := hbz9.free 5
      have x6 := hbx9.cell 6
      have y6 := hby9.cell 6
      have z6 := hbz9.cell 6
      have zf6 := hbz9.free 6
      simp at x0 x1 x2 x3 x4 x5 x6 y0 y1 y2 y3 y4 y5 y6 z0 z1 z2 z3 z4 z5 z6
      have HB9 := Lib.hid hb9
      have HX9 := Lib.hid hX9
      have HY9 := Lib.hid hY9
      have HBZ := Lib.hid hbz9
      have hq3 : yb + 1 < W9.heap.size := by omega
      have hBr : B ≤ wr.heap.size := by omega
      have hw9 : B ≤ W9.heap.size := by have := hb9.size; omega
      have hlo9 : wr.heap.size ≤ yb + 1 := by omega
      have hE : eithE r a b s = if mb then (if ma then r X Y else some Y) else some X := by
        unfold eithE
        rw [HMA.out, HMB.out, HX.out, HY.out]
      have HEE := Lib.hid hE
      clear hbx9 hby9 hbz9 hb9 hX9 hY9 hz9 hE hs6 hlx
      go_cut [17, 32] (fun s17 s32 wx => ∃ (t : Ty) (na3 : Option Addr) (nc3 : Nat) (sa3 : Option Addr) (sc3 : Nat), s17 = .bool (eithE r a b s).isSome ∧ s32 = .int .i64 k ∧ CutRel wr wx B t (tyCells t na3 nc3 sa3 sc3) (yb + 1) ∧ (∀ x, eithE r a b s = some x → t = x))
      case first =>
        cases mb
        · have h0 : eithE r a b s = some X := HEE.out
          have HH := Lib.hid h0
          have hq : CutRel wr W9 B X (tyCells X na1 nc1 sa1 sc1) (yb + 1) := ⟨HB9.out, HBZ.out, hlo9, HX9.out.toM.mono fun b hb => .inl hb⟩
          have HQ := Lib.hid hq
          clear h0 hq
          cases ma <;> (go_wp2_with fail; go_meet; exact ⟨X, na1, nc1, sa1, sc1, (by rw [HH.out]; rfl), rfl, HQ.out, fun x hx => by rw [HH.out] at hx; exact Option.some.inj hx⟩)
        · cases ma
          · have h0 : eithE r a b s = some Y := HEE.out
            have HH := Lib.hid h0
            have hq := CutRel.put (W2 := W9) (w3 := W9) hBr HB9.out (Below.refl _ _) hlo9 hq3 HBZ.out (HY9.out.toM.mono fun b hb => .inl hb)
            have HQ := Lib.hid hq
            clear h0 hq
            go_wp2_with fail
            go_meet
            exact ⟨Y, na2, nc2, sa2, sc2, (by rw [HH.out]; rfl), rfl, HQ.out, fun x hx => by rw [HH.out] at hx; exact Option.some.inj hx⟩
          · have h0 : eithE r a b s = r X Y := HEE.out
            have HH := Lib.hid h0
            have hmX : X ∈ a.subs := by rw [← HX.out]; exact ofT_mem HMA.out hna
            have hmY : Y ∈ b.subs := by rw [← HY.out]; exact ofT_mem HMB.out hnb'
            clear h0
            go_wp2_with fail
            refine (HI.out X Y hmX hmY _ _ B W9 HX9.out HY9.out hw9).mono ?_
            rintro e w7 ⟨⟨t, cr, rfl, hrt, htm⟩, hb7⟩
            obtain ⟨na3, nc3, sa3, sc3, f3, rfl, -⟩ := htm.inv
            have hz7 := HBZ.out.under hb7 hq3
            have z0 := hz7.cell 0
            have zf0 := hz7.free 0
            have z1 := hz7.cell 1
            have zf1 := hz7.free 1
            have z2 := hz7.cell 2
            have zf2 := hz7.free 2
            have z3 := hz7.cell 3
            have zf3 := hz7.free 3
            have z4 := hz7.cell 4
            have zf4 := hz7.free 4
            have z5 := hz7.cell 5
            have zf5 := hz7.free 5
            have z6 := hz7.cell 6
            have zf6 := hz7.free 6
            simp at z0 z1 z2 z3 z4 z5 z6
            have hq := CutRel.put (W2 := W9) (w3 := w7) hBr HB9.out hb7 hlo9 hq3 hz7 htm
            have HQ := Lib.hid hq
            have HRT := Lib.hid hrt
            clear hq hrt hz7 hb7 htm
            simp only [tyCells]
            go_wp2_with fail
            go_meet
            exact ⟨t, na3, nc3, sa3, sc3, (by rw [HH.out]), rfl, HQ.out, fun x hx => HRT.out x (by rw [← HH.out]; exact hx)⟩
      case rest =>
       obtain ⟨t, na3, nc3, sa3, sc3, rfl, rfl, hc, hrt⟩ := hcut
       generalize htbe : yb + 1 = tb at hc ⊢
       have HC := Lib.hid hc
       have hrs := (HR.out.blk H0.out.res (by omega)).under hc.below (by omega)
       have z0 := hrs.cell 0
       have f0 := hrs.free 0
       have z1 := hrs.cell 1
       have f1 := hrs.free 1
       have z2 := hrs.cell 2
       have f2 := hrs.free 2
       have z3 := hrs.cell 3
       have f3 := hrs.free 3
       have z4 := hrs.cell 4
       have f4 := hrs.free 4
       have z5 := hrs.cell 5
       have f5 := hrs.free 5
       have z6 := hrs.cell 6
       have f6 := hrs.free 6
       simp at z0 z1 z2 z3 z4 z5 z6
       have HRS := Lib.hid hrs
       have HHE := Lib.hid hlo9
       clear hrs x0 x1 x2 x3 x4 x5 x6 y0 y1 y2 y3 y4 y5 y6 zf0 zf1 zf2 zf3 zf4 zf5 zf6 HB9 HX9 HY9 HBZ HEE hq3 hw9 HB4 HTX hq1 hq2 hs4 hs5 htbe
       cases hr : eithE r a b s
       · clear hc hrt
         have hp : eitherR r a b = none := eitherR_none r a b s HMU.out hr
         have HP := Lib.hid hp
         clear hr hp
         simp only [Option.isSome_none]
         go_wp2_with fail
         have hblk := put7_full (.int .i64 0) (.string { data := #[] }) (.int .i64 0) (.string { data := #[] }) (.string { data := #[] }) (.slice none 0 0) (.slice none 0 0) HRS.out
         have hbl := put7_bel (.int .i64 0) (.string { data := #[] }) (.int .i64 0) (.string { data := #[] }) (.string { data := #[] }) (.slice none 0 0) (.slice none 0 0) (acc0 hacc hacc.size HC.out.below) (show w.heap.size ≤ w.heap.size + 1 + 1 by omega)
         generalize (((((((wc.setCell ⟨w.heap.size + 1 + 1, 0, none⟩ (.int .i64 0)).setCell ⟨w.heap.size + 1 + 1, 1, none⟩ (.string { data := #[] })).setCell ⟨w.heap.size + 1 + 1, 2, none⟩ (.int .i64 0)).setCell ⟨w.heap.size + 1 + 1, 3, none⟩ (.string { data := #[] })).setCell ⟨w.heap.size + 1 + 1, 4, none⟩ (.string { data := #[] })).setCell ⟨w.heap.size + 1 + 1, 5, none⟩ (.slice none 0 0)).setCell ⟨w.heap.size + 1 + 1, 6, none⟩ (.slice none 0 0)) = Wz at hblk hbl ⊢
         have p0 := hblk.cell 0
         have p1 := hblk.cell 1
         have p2 := hblk.cell 2
         have p3 := hblk.cell 3
         have p4 := hblk.cell 4
         have p5 := hblk.cell 5
         have p6 := hblk.cell 6
         simp at p0 p1 p2 p3 p4 p5 p6
         refine bodyPost_ret (by simp [results, Try.results60, go_sem, p0, p1, p2, p3, p4, p5, p6]; try rfl) rfl ?_
         exact ⟨⟨zeroTy, _, (by rw [HP.out]; rfl), fun x h => (by rw [HP.out] at h; cases h), (zero_tyc _ B).toM.mono fun b hb => Or.inl hb⟩, hbl⟩
       · obtain rfl := hrt _ hr
         have HE := Lib.hid hr
         have hbx := HR.out.out.under hc.below HR.out.out.lt
         have htb := hc.blk
         have hlb := hbx.lt
         have hlt3 := htb.lt
         have hlb1 : w.heap.size + 1 + 1 + 1 < wc.heap.size + 1 := by omega
         have hlt31 : tb < wc.heap.size + 1 := by omega
         have hrw := HR.out.rows.under hc.below (by omega)
         have HBX := Lib.hid hbx
         have HTB := Lib.hid htb
         have hown1 := fun g hg => owns_lt HR.out.rows.row1 (g := g) hg
         have hown2 := fun g hg => owns_lt HR.out.rows.row2 (g := g) hg
         have hlo := hc.lo
         have hbw := hc.below.size
         have hnb : nv.ownBlock ≠ some (w.heap.size + 1 + 1 + 1) := fun e => by have := hown1 _ e; omega
         have hnt : nv.ownBlock ≠ some tb := fun e => by have := hown1 _ e; omega
         have hsb : sv.ownBlock ≠ some (w.heap.size + 1 + 1 + 1) := fun e => by have := hown2 _ e; omega
         have hnw : ∀ b, wc.heap.size ≤ b → nv.ownBlock ≠ some b := fun b hb e => by have := hown1 _ e; omega
         have HRW := Lib.hid hrw
         clear hown1 hown2 hc hrt hr hbx htb hrw
         simp only [Option.isSome_some]
         go_wp2
         have hone1 : ∀ u ∈ [Value.string s], u.oneCell' = true := by simp [Value.oneCell']
         have hone7 : ∀ u ∈ (#[.int .i64 t.kind, .string t.pkg, .int .i64 t.major, .string t.mod, .string t.name, .slice na3 t.names.length nc3, .slice sa3 t.subs.length sc3] : Array Value).toList, u.oneCell' = true := by simp [Value.oneCell']
         have hml : L.length + 1 ≤ maxLen := by unfold maxLen; omega
         have hb16 : (L.length + 1) * 16 ≤ 140737488355328 := by omega
         have hb112 : (L.length + 1) * 112 ≤ 140737488355328 := by omega
         clear z0 z1 z2 z3 z4 z5 z6 f0 f1 f2 f3 f4 f5 f6
         generalize hVA : Value.agg #[.int .i64 a.kind, .string a.pkg, .int .i64 a.major, .string a.mod, .string a.name, .slice na a.names.length nc, .slice sa a.subs.length sc] = VA
         generalize hVB : Value.agg #[.int .i64 b.kind, .string b.pkg, .int .i64 b.major, .string b.mod, .string b.name, .slice na' b.names.length nc', .slice sa' b.subs.length sc'] = VB
         generalize hVO : Value.agg #[.int .i64 a.kind, .string { data := #[] }, .int .i64 0, .string { data := #[] }, .string { data := #[] }, .slice none 0 0, .slice none 0 0] = VO
         refine wp_region_until [(4, fun w' => w'.cell? ⟨w.heap.size + 1 + 1 + 1, 5, none⟩ = some nv), (9, fun w' => w'.cell? ⟨w.heap.size + 1 + 1 + 1, 6, none⟩ = some sv), (8, fun w' => Blk w' tb #[.int .i64 t.kind, .string t.pkg, .int .i64 t.major, .string t.mod, .string t.name, .slice na3 t.names.length nc3, .slice sa3 t.subs.length sc3] 25)] (by kernel_rfl) (Until.cons (fun _ => HBX.out.drew.cell 5) (Until.cons (fun _ => HBX.out.drew.cell 6) (Until.cons (fun _ => HTB.out.drew) Until.nil))) (fun hU => ?_)
         refine AnyU.take (i := 0) (v := ?_) rfl (by kernel_rfl) (by kernel_rfl) (by kernel_rfl) (fun _ _ _ h => h) (by kernel_rfl) (by assumption) (by rfl) ?_ (fun hU => ?_)
         rotate_left 1
         · (intro wq; go_simp; try with_reducible rfl)
         simp only [Act.put, List.getElem_toArray, List.getElem_cons_zero, List.getElem_cons_succ, List.setIfInBounds_toArray, List.set_cons_zero, List.set_cons_succ]
         refine AnyU.load (i := 1) (d := 4) (Si := fun w' => w'.cell? ⟨w.heap.size + 1 + 1 + 1, 5, none⟩ = some nv) (v := ?_) rfl rfl (by kernel_rfl) (by kernel_rfl) (by kernel_rfl) (fun _ _ _ h => h) (by kernel_rfl) (by assumption) (by kernel_rfl) (by kernel_rfl) (by simp) (by rfl) ?_ (fun hU => ?_)
         rotate_left 1
         · (intro wq hq; go_simp; try with_reducible rfl)
         simp only [Act.put, List.getElem_toArray, List.getElem_cons_zero, List.getElem_cons_succ, List.setIfInBounds_toArray, List.set_cons_zero, List.set_cons_succ]
         refine AnyU.take (i := 2) (v := ?_) rfl (by kernel_rfl) (by kernel_rfl) (by kernel_rfl) (fun _ _ _ h => h) (by kernel_rfl) (by assumption) (by rfl) ?_ (fun hU => ?_)
         rotate_left 1
         · (intro wq; go_simp; try with_reducible rfl)
         simp only [Act.put, List.getElem_toArray, List.getElem_cons_zero, List.getElem_cons_succ, List.setIfInBounds_toArray, List.set_cons_zero, List.set_cons_succ]
         refine AnyU.take (i := 5) (v := ?_) rfl (by kernel_rfl) (by kernel_rfl) (by kernel_rfl) (fun _ _ _ h => h) (by kernel_rfl) (by assumption) (by rfl) ?_ (fun hU => ?_)
         rotate_left 1
         · (intro wq; go_simp; try with_reducible rfl)
         simp only [Act.put, List.getElem_toArray, List.getElem_cons_zero, List.getElem_cons_succ, List.setIfInBounds_toArray, List.set_cons_zero, List.set_cons_succ]
         refine AnyU.load (i := 6) (d := 9) (Si := fun w' => w'.cell? ⟨w.heap.size + 1 + 1 + 1, 6, none⟩ = some sv) (v := ?_) rfl rfl (by kernel_rfl) (by kernel_rfl) (by kernel_rfl) (fun _ _ _ h => h) (by kernel_rfl) (by assumption) (by kernel_rfl) (by kernel_rfl) (by simp) (by rfl) ?_ (fun hU => ?_)
         rotate_left 1
         · (intro wq hq; go_simp; try with_reducible rfl)
         simp only [Act.put, List.getElem_toArray, List.getElem_cons_zero, List.getElem_cons_succ, List.setIfInBounds_toArray, List.set_cons_zero, List.set_cons_succ]
         refine AnyU.load (i := 7) (d := 8) (Si := fun w' => Blk w' tb #[.int .i64 t.kind, .string t.pkg, .int .i64 t.major, .string t.mod, .string t.name, .slice na3 t.names.length nc3, .slice sa3 t.subs.length sc3] 25) (v := ?_) rfl rfl (by kernel_rfl) (by kernel_rfl) (by kernel_rfl) (fun _ _ _ h => h) (by kernel_rfl) (by assumption) (by kernel_rfl) (by kernel_rfl) (by simp) (by rfl) ?_ (fun hU => ?_)
         rotate_left 1
         · (intro wq hq; obtain ⟨u0, u1, u2, u3, u4, u5, u6⟩ := tb7 hq; go_simp; try with_reducible rfl)
         simp only [Act.put, List.getElem_toArray, List.getElem_cons_zero, List.getElem_cons_succ, List.setIfInBounds_toArray, List.set_cons_zero, List.set_cons_succ]
         refine AnyU.ready2 (i := 3) (j := 8) (by kernel_rfl) (AnyU.one rfl fun K hK => ?_) (AnyU.one rfl fun K hK => ?_)
         · go_simp
           obtain ⟨hX1, hbN, hszX1⟩ := laid_drew wc #[.string s] 9
           have hE : ((wc.alloc (.cells #[.string s] 9)).drew) = ((wc.alloc (.cells #[.string s] 9)).drew) := rfl
           generalize hX1e : ((wc.alloc (.cells #[.string s] 9)).drew) = X1 at hX1 hbN hszX1 ⊢
           clear hE hX1e
           refine hK.out _ _ (Until.cons (fun _ => (HBX.out.under hX1 HBX.out.lt).cell 5) (Until.cons (fun _ => (HBX.out.under hX1 HBX.out.lt).cell 6) (Until.cons (fun _ => HTB.out.under hX1 HTB.out.lt) Until.nil))) (fun hU => ?_)
           clear hK K
           try simp only [Act.put, List.getElem_toArray, List.getElem_cons_zero, List.getElem_cons_succ, List.setIfInBounds_toArray, List.set_cons_zero, List.set_cons_succ]
           refine AnyU.ready2 (i := 4) (j := 8) (by kernel_rfl) (AnyU.one rfl fun K hK => ?_) (AnyU.one rfl fun K hK => ?_)
           ·
             refine step_append_lies X1 (by rfl) _ _ _ (by rfl) (w3.heap.size) 9 iN _ 1 16 Try.underlying22 hiN hzN0 hzN1 hzN2 rfl (by decide) nv L.length (L.map fun p => Value.string p.1) (by rfl) (owns_under HRW.out.row1 hX1) ⟨wc.heap.size, 0, none⟩ 1 1 [.string s] (by rfl) (by rfl) (World.news_of_block (cs := #[.string s]) (t := 9) (fr := (0, 0)) hbN) hone1 (by decide) hml hb16 (by have := hX1.size; omega) _ rfl ?_
             intro gN cN x2 hownN hgN hatN hltN
             obtain ⟨hrS, hbS, -⟩ := grown_rest2 HRW.out hX1 hgN HBX.out HTB.out hnb hnt
             have htS := grown_box hgN (HTB.out.under hX1 HTB.out.lt) hnt
             have hx2b : w3.heap.size ≤ x2.heap.size := (by have := owns_lt hownN (g := gN) rfl; omega)
             refine hK.out _ _ (Until.cons (fun h => absurd h (by decide)) (Until.cons (fun _ => hbS.cell 6) (Until.cons (fun _ => htS) Until.nil))) (fun hU => ?_)
             clear hK K
             try simp only [Act.put, List.getElem_toArray, List.getElem_cons_zero, List.getElem_cons_succ, List.setIfInBounds_toArray, List.set_cons_zero, List.set_cons_succ]
             refine AnyU.take (i := 10) (v := ?_) rfl (by kernel_rfl) (by kernel_rfl) (by kernel_rfl) (fun _ _ _ h => h) (by kernel_rfl) (by assumption) (by rfl) ?_ (fun hU => ?_)
             rotate_left 1
             · (intro wq; go_simp; try with_reducible rfl)
             simp only [Act.put, List.getElem_toArray, List.getElem_cons_zero, List.getElem_cons_succ, List.setIfInBounds_toArray, List.set_cons_zero, List.set_cons_succ]
             refine AnyU.ready1 (i := 8) (by kernel_rfl) (AnyU.one rfl fun K hK => ?_)
             go_simp
             obtain ⟨hX3, hbS3, hszX3⟩ := laid0 x2 #[.int .i64 t.kind, .string t.pkg, .int .i64 t.major, .string t.mod, .string t.name, .slice na3 t.names.length nc3, .slice sa3 t.subs.length sc3] 25
             generalize (x2.alloc (.cells #[.int .i64 t.kind, .string t.pkg, .int .i64 t.major, .string t.mod, .string t.name, .slice na3 t.names.length nc3, .slice sa3 t.subs.length sc3] 25)) = X3 at hX3 hbS3 hszX3 ⊢
             refine hK.out _ _ (Until.cons (fun h => absurd h (by decide)) (Until.cons (fun _ => (hbS.under hX3 hbS.lt).cell 6) (Until.cons (fun h => absurd h (by decide)) Until.nil))) (fun hU => ?_)
             clear hK K
             try simp only [Act.put, List.getElem_toArray, List.getElem_cons_zero, List.getElem_cons_succ, List.setIfInBounds_toArray, List.set_cons_zero, List.set_cons_succ]
             refine AnyU.ready1 (i := 9) (by kernel_rfl) (AnyU.one rfl fun K hK => ?_)
             refine step_append_lies X3 (by rfl) _ _ _ (by rfl) (w3.heap.size) 25 iS _ 7 112 Try.underlying23 hiS hzS0 hzS1 hzS2 rfl (by decide) sv L.length (F.flatMap (·.toList)) (by rfl) (owns_under hrS hX3) ⟨x2.heap.size, 0, none⟩ 1 1 (#[.int .i64 t.kind, .string t.pkg, .int .i64 t.major, .string t.mod, .string t.name, .slice na3 t.names.length nc3, .slice sa3 t.subs.length sc3] : Array Value).toList (by rfl) (by rfl) (World.news_of_block (cs := #[.int .i64 t.kind, .string t.pkg, .int .i64 t.major, .string t.mod, .string t.name, .slice na3 t.names.length nc3, .slice sa3 t.subs.length sc3]) (t := 25) (fr := (0, 0)) hbS3) hone7 (by decide) hml hb112 (by have := hX3.size; omega) _ rfl ?_
             intro gS cS x4 hownS hgS hatS hltS
             obtain ⟨e5, e6, f5, f6⟩ := grown_box2 hgS (hbS.under hX3 hbS.lt) hsb
             refine hK.out _ _ (Until.off (by kernel_rfl)) (fun hU => ?_)
             clear hK K
             try simp only [Act.put, List.getElem_toArray, List.getElem_cons_zero, List.getElem_cons_succ, List.setIfInBounds_toArray, List.set_cons_zero, List.set_cons_succ]
             refine AnyU.ready1 (i := 11) (by kernel_rfl) (AnyU.one rfl fun K hK => ?_)
             go_simp
             refine hK.out _ _ (Until.off (by kernel_rfl)) (fun hU => ?_)
             clear hK K
             try simp only [Act.put, List.getElem_toArray, List.getElem_cons_zero, List.getElem_cons_succ, List.setIfInBounds_toArray, List.set_cons_zero, List.set_cons_succ]
             refine AnyU.take (i := 12) (v := ?_) rfl (by kernel_rfl) (by kernel_rfl) (by kernel_rfl) (fun _ _ _ h => h) (by kernel_rfl) (by assumption) (by rfl) ?_ (fun hU => ?_)
             rotate_left 1
             · (intro wq; go_simp; try with_reducible rfl)
             simp only [Act.put, List.getElem_toArray, List.getElem_cons_zero, List.getElem_cons_succ, List.setIfInBounds_toArray, List.set_cons_zero, List.set_cons_succ]
             refine AnyU.ready1 (i := 13) (by kernel_rfl) (AnyU.one rfl fun K hK => ?_)
             go_simp
             refine hK.out _ _ (Until.off (by kernel_rfl)) (fun hU => ?_)
             clear hK K
             try simp only [Act.put, List.getElem_toArray, List.getElem_cons_zero, List.getElem_cons_succ, List.setIfInBounds_toArray, List.set_cons_zero, List.set_cons_succ]
             refine AnyU.done (by kernel_rfl) ?_
             clear hU
             have hnx := HR.out.next hB H0.out.size hlt HC.out HS.out HE.out hX1 hgN hX3 hgS hownN (hatN.imp id fun e => by rw [e]; exact hX1.size) hownS (hatS.imp id fun e => by rw [e]; exact hX3.size)
             have HNX := Lib.hid hnx
             generalize ((x4.setCell ⟨w.heap.size + 1 + 1 + 1, 5, none⟩ (.slice (some ⟨gN, 0, none⟩) (L.length + 1) cN)).setCell ⟨w.heap.size + 1 + 1 + 1, 6, none⟩ (.slice (some ⟨gS, 0, none⟩) (L.length + 1) cS)) = Wz at HNX ⊢
             clear hnx e5 e6 f5 f6 hownN hgN hatN hltN hownS hgS hatS hltS hrS hbS htS hX1 hbN hszX1 hX3 hbS3 hszX3
             clear HR HC HRW HBX HTB hnb hnt hsb hnw hone1 hone7 hml hb16 hb112 hlb hlt3 hlb1 hlt31 hx2b
             subst hVA hVB hVO
             go_wp2
             first
               | exact ⟨⟨k + 1, _, _, _, _, by omega, by go_num, HNX.out⟩, by simp [intOf]; omega⟩
               | (go_roundw
                  case rel => exact ⟨k + 1, _, _, _, _, by omega, by go_num, HNX.out⟩
                  case measure => simp [intOf]; omega)
           ·
             go_simp
             obtain ⟨hXb, hbN2, hbB, hszXb⟩ := laid_two hX1 hszX1 hbN #[.int .i64 t.kind, .string t.pkg, .int .i64 t.major, .string t.mod, .string t.name, .slice na3 t.names.length nc3, .slice sa3 t.subs.length sc3] 25
             generalize (X1.alloc (.cells #[.int .i64 t.kind, .string t.pkg, .int .i64 t.major, .string t.mod, .string t.name, .slice na3 t.names.length nc3, .slice sa3 t.subs.length sc3] 25)) = Xb at hXb hbN2 hbB hszXb ⊢
             refine hK.out _ _ (Until.cons (fun _ => (HBX.out.under hXb HBX.out.lt).cell 5) (Until.cons (fun _ => (HBX.out.under hXb HBX.out.lt).cell 6) (Until.cons (fun h => absurd h (by decide)) Until.nil))) (fun hU => ?_)
             clear hK K
             try simp only [Act.put, List.getElem_toArray, List.getElem_cons_zero, List.getElem_cons_succ, List.setIfInBounds_toArray, List.set_cons_zero, List.set_cons_succ]
             refine AnyU.ready1 (i := 4) (by kernel_rfl) (AnyU.one rfl fun K hK => ?_)
             refine step_append_lies Xb (by rfl) _ _ _ (by rfl) (w3.heap.size) 9 iN _ 1 16 Try.underlying22 hiN hzN0 hzN1 hzN2 rfl (by decide) nv L.length (L.map fun p => Value.string p.1) (by rfl) (owns_under HRW.out.row1 hXb) ⟨wc.heap.size, 0, none⟩ 1 1 [.string s] (by rfl) (by rfl) (World.news_of_block (cs := #[.string s]) (t := 9) (fr := (0, 0)) hbN2) hone1 (by decide) hml hb16 (by have := hXb.size; omega) _ rfl ?_
             intro gN cN x2 hownN hgN hatN hltN
             obtain ⟨hrS, hbS, -⟩ := grown_rest2 HRW.out hXb hgN HBX.out HTB.out hnb hnt
             have htS := grown_box hgN (HTB.out.under hXb HTB.out.lt) hnt
             have hx2b : w3.heap.size ≤ x2.heap.size := (by have := owns_lt hownN (g := gN) rfl; omega)
             have hbS3 := (hgN.block _ (Array.getElem?_eq_some_iff.1 hbB).1 (fun e => hnw _ (by omega) e.symm)).trans hbB
             refine hK.out _ _ (Until.cons (fun h => absurd h (by decide)) (Until.cons (fun _ => hbS.cell 6) (Until.cons (fun h => absurd h (by decide)) Until.nil))) (fun hU => ?_)
             clear hK K
             try simp only [Act.put, List.getElem_toArray, List.getElem_cons_zero, List.getElem_cons_succ, List.setIfInBounds_toArray, List.set_cons_zero, List.set_cons_succ]
             refine AnyU.take (i := 10) (v := ?_) rfl (by kernel_rfl) (by kernel_rfl) (by kernel_rfl) (fun _ _ _ h => h) (by kernel_rfl) (by assumption) (by rfl) ?_ (fun hU => ?_)
             rotate_left 1
             · (intro wq; go_simp; try with_reducible rfl)
             simp only [Act.put, List.getElem_toArray, List.getElem_cons_zero, List.getElem_cons_succ, List.setIfInBounds_toArray, List.set_cons_zero, List.set_cons_succ]
             refine AnyU.ready1 (i := 9) (by kernel_rfl) (AnyU.one rfl fun K hK => ?_)
             refine step_append_lies x2 (by rfl) _ _ _ (by rfl) (w3.heap.size) 25 iS _ 7 112 Try.underlying23 hiS hzS0 hzS1 hzS2 rfl (by decide) sv L.length (F.flatMap (·.toList)) (by rfl) (owns_under hrS (Below.refl x2.heap.size x2)) ⟨(wc.heap.size + 1), 0, none⟩ 1 1 (#[.int .i64 t.kind, .string t.pkg, .int .i64 t.major, .string t.mod, .string t.name, .slice na3 t.names.length nc3, .slice sa3 t.subs.length sc3] : Array Value).toList (by rfl) (by rfl) (World.news_of_block (cs := #[.int .i64 t.kind, .string t.pkg, .int .i64 t.major, .string t.mod, .string t.name, .slice na3 t.names.length nc3, .slice sa3 t.subs.length sc3]) (t := 25) (fr := (0, 0)) hbS3) hone7 (by decide) hml hb112 (by have := (Below.refl x2.heap.size x2).size; omega) _ rfl ?_
             intro gS cS x4 hownS hgS hatS hltS
             obtain ⟨e5, e6, f5, f6⟩ := grown_box2 hgS (hbS.under (Below.refl x2.heap.size x2) hbS.lt) hsb
             refine hK.out _ _ (Until.off (by kernel_rfl)) (fun hU => ?_)
             clear hK K
             try simp only [Act.put, List.getElem_toArray, List.getElem_cons_zero, List.getElem_cons_succ, List.setIfInBounds_toArray, List.set_cons_zero, List.set_cons_succ]
             refine AnyU.ready1 (i := 11) (by kernel_rfl) (AnyU.one rfl fun K hK => ?_)
             go_simp
             refine hK.out _ _ (Until.off (by kernel_rfl)) (fun hU => ?_)
             clear hK K
             try simp only [Act.put, List.getElem_toArray, List.getElem_cons_zero, List.getElem_cons_succ, List.setIfInBounds_toArray, List.set_cons_zero, List.set_cons_succ]
             refine AnyU.take (i := 12) (v := ?_) rfl (by kernel_rfl) (by kernel_rfl) (by kernel_rfl) (fun _ _ _ h => h) (by kernel_rfl) (by assumption) (by rfl) ?_ (fun hU => ?_)
             rotate_left 1
             · (intro wq; go_simp; try with_reducible rfl)
             simp only [Act.put, List.getElem_toArray, List.getElem_cons_zero, List.getElem_cons_succ, List.setIfInBounds_toArray, List.set_cons_zero, List.set_cons_succ]
             refine AnyU.ready1 (i := 13) (by kernel_rfl) (AnyU.one rfl fun K hK => ?_)
             go_simp
             refine hK.out _ _ (Until.off (by kernel_rfl)) (fun hU => ?_)
             clear hK K
             try simp only [Act.put, List.getElem_toArray, List.getElem_cons_zero, List.getElem_cons_succ, List.setIfInBounds_toArray, List.set_cons_zero, List.set_cons_succ]
             refine AnyU.done (by kernel_rfl) ?_
             clear hU
             have hnx := HR.out.next hB H0.out.size hlt HC.out HS.out HE.out hXb hgN (Below.refl x2.heap.size x2) hgS hownN (hatN.imp id fun e => by rw [e]; exact hXb.size) hownS (hatS.imp id fun e => by rw [e]; exact (Below.refl x2.heap.size x2).size)
             have HNX := Lib.hid hnx
             generalize ((x4.setCell ⟨w.heap.size + 1 + 1 + 1, 5, none⟩ (.slice (some ⟨gN, 0, none⟩) (L.length + 1) cN)).setCell ⟨w.heap.size + 1 + 1 + 1, 6, none⟩ (.slice (some ⟨gS, 0, none⟩) (L.length + 1) cS)) = Wz at HNX ⊢
             clear hnx e5 e6 f5 f6 hownN hgN hatN hltN hownS hgS hatS hltS hrS hbS htS hX1 hbN hszX1 hXb hbB hszXb
             clear HR HC HRW HBX HTB hnb hnt hsb hnw hone1 hone7 hml hb16 hb112 hlb hlt3 hlb1 hlt31 hx2b
             subst hVA hVB hVO
             go_wp2
             first
               | exact ⟨⟨k + 1, _, _, _, _, by omega, by go_num, HNX.out⟩, by simp [intOf]; omega⟩
               | (go_roundw
                  case rel => exact ⟨k + 1, _, _, _, _, by omega, by go_num, HNX.out⟩
                  case measure => simp [intOf]; omega)
         · go_simp
           obtain ⟨hX1, hbN, hszX1⟩ := laid_drew wc #[.int .i64 t.kind, .string t.pkg, .int .i64 t.major, .string t.mod, .string t.name, .slice na3 t.names.length nc3, .slice sa3 t.subs.length sc3] 25
           generalize ((wc.alloc (.cells #[.int .i64 t.kind, .string t.pkg, .int .i64 t.major, .string t.mod, .string t.name, .slice na3 t.names.length nc3, .slice sa3 t.subs.length sc3] 25)).drew) = X1 at hX1 hbN hszX1 ⊢
           refine hK.out _ _ (Until.cons (fun _ => (HBX.out.under hX1 HBX.out.lt).cell 5) (Until.cons (fun _ => (HBX.out.under hX1 HBX.out.lt).cell 6) (Until.cons (fun h => absurd h (by decide)) Until.nil))) (fun hU => ?_)
           clear hK K
           try simp only [Act.put, List.getElem_toArray, List.getElem_cons_zero, List.getElem_cons_succ, List.setIfInBounds_toArray, List.set_cons_zero, List.set_cons_succ]
           refine AnyU.ready1 (i := 3) (by kernel_rfl) (AnyU.one rfl fun K hK => ?_)
           go_simp
           obtain ⟨hXb, hbB, hbN2, hszXb⟩ := laid_two hX1 hszX1 hbN #[.string s] 9
           generalize (X1.alloc (.cells #[.string s] 9)) = Xb at hXb hbN2 hbB hszXb ⊢
           refine hK.out _ _ (Until.cons (fun _ => (HBX.out.under hXb HBX.out.lt).cell 5) (Until.cons (fun _ => (HBX.out.under hXb HBX.out.lt).cell 6) (Until.cons (fun h => absurd h (by decide)) Until.nil))) (fun hU => ?_)
           clear hK K
           try simp only [Act.put, List.getElem_toArray, List.getElem_cons_zero, List.getElem_cons_succ, List.setIfInBounds_toArray, List.set_cons_zero, List.set_cons_succ]
           refine AnyU.ready1 (i := 4) (by kernel_rfl) (AnyU.one rfl fun K hK => ?_)
           refine step_append_lies Xb (by rfl) _ _ _ (by rfl) (w3.heap.size) 9 iN _ 1 16 Try.underlying22 hiN hzN0 hzN1 hzN2 rfl (by decide) nv L.length (L.map fun p => Value.string p.1) (by rfl) (owns_under HRW.out.row1 hXb) ⟨(wc.heap.size + 1), 0, none⟩ 1 1 [.string s] (by rfl) (by rfl) (World.news_of_block (cs := #[.string s]) (t := 9) (fr := (0, 0)) hbN2) hone1 (by decide) hml hb16 (by have := hXb.size; omega) _ rfl ?_
           intro gN cN x2 hownN hgN hatN hltN
           obtain ⟨hrS, hbS, -⟩ := grown_rest2 HRW.out hXb hgN HBX.out HTB.out hnb hnt
           have htS := grown_box hgN (HTB.out.under hXb HTB.out.lt) hnt
           have hx2b : w3.heap.size ≤ x2.heap.size := (by have := owns_lt hownN (g := gN) rfl; omega)
           have hbS3 := (hgN.block _ (Array.getElem?_eq_some_iff.1 hbB).1 (fun e => hnw _ (by omega) e.symm)).trans hbB
           refine hK.out _ _ (Until.cons (fun h => absurd h (by decide)) (Until.cons (fun _ => hbS.cell 6) (Until.cons (fun h => absurd h (by decide)) Until.nil))) (fun hU => ?_)
           clear hK K
           try simp only [Act.put, List.getElem_toArray, List.getElem_cons_zero, List.getElem_cons_succ, List.setIfInBounds_toArray, List.set_cons_zero, List.set_cons_succ]
           refine AnyU.take (i := 10) (v := ?_) rfl (by kernel_rfl) (by kernel_rfl) (by kernel_rfl) (fun _ _ _ h => h) (by kernel_rfl) (by assumption) (by rfl) ?_ (fun hU => ?_)
           rotate_left 1
           · (intro wq; go_simp; try with_reducible rfl)
           simp only [Act.put, List.getElem_toArray, List.getElem_cons_zero, List.getElem_cons_succ, List.setIfInBounds_toArray, List.set_cons_zero, List.set_cons_succ]
           refine AnyU.ready1 (i := 9) (by kernel_rfl) (AnyU.one rfl fun K hK => ?_)
           refine step_append_lies x2 (by rfl) _ _ _ (by rfl) (w3.heap.size) 25 iS _ 7 112 Try.underlying23 hiS hzS0 hzS1 hzS2 rfl (by decide) sv L.length (F.flatMap (·.toList)) (by rfl) (owns_under hrS (Below.refl x2.heap.size x2)) ⟨wc.heap.size, 0, none⟩ 1 1 (#[.int .i64 t.kind, .string t.pkg, .int .i64 t.major, .string t.mod, .string t.name, .slice na3 t.names.length nc3, .slice sa3 t.subs.length sc3] : Array Value).toList (by rfl) (by rfl) (World.news_of_block (cs := #[.int .i64 t.kind, .string t.pkg, .int .i64 t.major, .string t.mod, .string t.name, .slice na3 t.names.length nc3, .slice sa3 t.subs.length sc3]) (t := 25) (fr := (0, 0)) hbS3) hone7 (by decide) hml hb112 (by have := (Below.refl x2.heap.size x2).size; omega) _ rfl ?_
           intro gS cS x4 hownS hgS hatS hltS
           obtain ⟨e5, e6, f5, f6⟩ := grown_box2 hgS (hbS.under (Below.refl x2.heap.size x2) hbS.lt) hsb
           refine hK.out _ _ (Until.off (by kernel_rfl)) (fun hU => ?_)
           clear hK K
           try simp only [Act.put, List.getElem_toArray, List.getElem_cons_zero, List.getElem_cons_succ, List.setIfInBounds_toArray, List.set_cons_zero, List.set_cons_succ]
           refine AnyU.ready1 (i := 11) (by kernel_rfl) (AnyU.one rfl fun K hK => ?_)
           go_simp
           refine hK.out _ _ (Until.off (by kernel_rfl)) (fun hU => ?_)
           clear hK K
           try simp only [Act.put, List.getElem_toArray, List.getElem_cons_zero, List.getElem_cons_succ, List.setIfInBounds_toArray, List.set_cons_zero, List.set_cons_succ]
           refine AnyU.take (i := 12) (v := ?_) rfl (by kernel_rfl) (by kernel_rfl) (by kernel_rfl) (fun _ _ _ h => h) (by kernel_rfl) (by assumption) (by rfl) ?_ (fun hU => ?_)
           rotate_left 1
           · (intro wq; go_simp; try with_reducible rfl)
           simp only [Act.put, List.getElem_toArray, List.getElem_cons_zero, List.getElem_cons_succ, List.setIfInBounds_toArray, List.set_cons_zero, List.set_cons_succ]
           refine AnyU.ready1 (i := 13) (by kernel_rfl) (AnyU.one rfl fun K hK => ?_)
           go_simp
           refine hK.out _ _ (Until.off (by kernel_rfl)) (fun hU => ?_)
           clear hK K
           try simp only [Act.put, List.getElem_toArray, List.getElem_cons_zero, List.getElem_cons_succ, List.setIfInBounds_toArray, List.set_cons_zero, List.set_cons_succ]
           refine AnyU.done (by kernel_rfl) ?_
           clear hU
           have hnx := HR.out.next hB H0.out.size hlt HC.out HS.out HE.out hXb hgN (Below.refl x2.heap.size x2) hgS hownN (hatN.imp id fun e => by rw [e]; exact hXb.size) hownS (hatS.imp id fun e => by rw [e]; exact (Below.refl x2.heap.size x2).size)
           have HNX := Lib.hid hnx
           generalize ((x4.setCell ⟨w.heap.size + 1 + 1 + 1, 5, none⟩ (.slice (some ⟨gN, 0, none⟩) (L.length + 1) cN)).setCell ⟨w.heap.size + 1 + 1 + 1, 6, none⟩ (.slice (some ⟨gS, 0, none⟩) (L.length + 1) cS)) = Wz at HNX ⊢
           clear hnx e5 e6 f5 f6 hownN hgN hatN hltN hownS hgS hatS hltS hrS hbS htS hX1 hbN hszX1 hXb hbB hszXb
           clear HR HC HRW HBX HTB hnb hnt hsb hnw hone1 hone7 hml hb16 hb112 hlb hlt3 hlb1 hlt31 hx2b
           subst hVA hVB hVO
           go_wp2
           first
             | exact ⟨⟨k + 1, _, _, _, _, by omega, by go_num, HNX.out⟩, by simp [intOf]; omega⟩
             | (go_roundw
                case rel => exact ⟨k + 1, _, _, _, _, by omega, by go_num, HNX.out⟩
                case measure => simp [intOf]; omega)
    · have hke : k = (unionN a.names b.names).length := by omega
      subst hke
      obtain ⟨A1, m1, c1, rfl⟩ := own_form hr.rows.row1
      obtain ⟨A2, m2, c2, rfl⟩ := own_form hr.rows.row2
      have hgot := hr.got
      rw [List.take_length] at hgot
      have hfit := eith_fits HF.out HF'.out (by omega) (by omega) hgot
      have hp : eitherR r a b = some (tyOf a.kind L) := by unfold eitherR; rw [hgot]; rfl
      have HP := Lib.hid hp
      have HFT := Lib.hid hfit
      have hres := hr.blk H0.out.res (by omega)
      have HRES := Lib.hid hres
      have o0 := hr.out.cell 0
      have z0 := hres.cell 0
      have f0 := hres.free 0
      have o1 := hr.out.cell 1
      have z1 := hres.cell 1
      have f1 := hres.free 1
      have o2 := hr.out.cell 2
      have z2 := hres.cell 2
      have f2 := hres.free 2
      have o3 := hr.out.cell 3
      have z3 := hres.cell 3
      have f3 := hres.free 3
      have o4 := hr.out.cell 4
      have z4 := hres.cell 4
      have f4 := hres.free 4
      have o5 := hr.out.cell 5
      have z5 := hres.cell 5
      have f5 := hres.free 5
      have o6 := hr.out.cell 6
      have z6 := hres.cell 6
      have f6 := hres.free 6
      simp at o0 z0 o1 z1 o2 z2 o3 z3 o4 z4 o5 z5 o6 z6
      have hkx : ¬ ((unionN a.names b.names).length : Int) < ((unionN a.names b.names).length : Int) := by omega
      clear hr hp hgot hfit hres
      go_wp2_with fail
      have hlast := HR.out.last H0.out hB HFT.out (.int .i64 a.kind) (.string { data := #[] }) (.int .i64 0) (.string { data := #[] }) (.string { data := #[] }) (.slice A1 m1 c1) (.slice A2 m2 c2)
      have hblk := put7_full (.int .i64 a.kind) (.string { data := #[] }) (.int .i64 0) (.string { data := #[] }) (.string { data := #[] }) (.slice A1 m1 c1) (.slice A2 m2 c2) HRES.out
      simp only [put7_zero] at hlast
      generalize (((((((wr.setCell ⟨w.heap.size + 1 + 1, 0, none⟩ (.int .i64 a.kind)).setCell ⟨w.heap.size + 1 + 1, 1, none⟩ (.string { data := #[] })).setCell ⟨w.heap.size + 1 + 1, 2, none⟩ (.int .i64 0)).setCell ⟨w.heap.size + 1 + 1, 3, none⟩ (.string { data := #[] })).setCell ⟨w.heap.size + 1 + 1, 4, none⟩ (.string { data := #[] })).setCell ⟨w.heap.size + 1 + 1, 5, none⟩ (.slice A1 m1 c1)).setCell ⟨w.heap.size + 1 + 1, 6, none⟩ (.slice A2 m2 c2)) = Wz at hlast hblk ⊢
      have q0 := hblk.cell 0
      have q1 := hblk.cell 1
      have q2 := hblk.cell 2
      have q3 := hblk.cell 3
      have q4 := hblk.cell 4
      have q5 := hblk.cell 5
      have q6 := hblk.cell 6
      simp at q0 q1 q2 q3 q4 q5 q6
      refine bodyPost_ret (by simp [results, Try.results60, go_sem, q0, q1, q2, q3, q4, q5, q6]; try rfl) rfl ?_
      exact ⟨⟨_, _, (by rw [HP.out]; rfl), fun x hx => (by rw [HP.out] at hx; exact Option.some.inj hx), hlast.1⟩, hlast.2⟩
end Go.Proofs.Ytalpmjmifcofeaa
