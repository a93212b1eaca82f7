/- The contract of merlonref14.Parse at a text that is not too long. -/
import Derived.Test.YtlpgkldialmofaaGreatDoorRfText
import Derived.Test.YtlpgkldialmofaaGreatDoorLexR2
import Derived.Test.YtlpgkldialmofaaGreatDoorParM2
import Derived.Test.YtlpgkldialmofaaGreatDoorMayR
import Derived.Test.YtlpgkldialmofaaGreatDoorRegS
namespace Go.Proofs.YtlpgkldialmofaaGreatDoor
open Go.RowKit
set_option linter.unusedSimpArgs false
set_option linter.unusedVariables false
/-- what merlonref14.Parse holds behind its tokens -/
structure RfSt (w : World) (gm : Nat) (tv : Value) (ts : List Tok) (wx : World) (p : ByteArray) (v1 v2 v3 : Int) (sv : Value) (ds : List Dp) : Prop where
  below : Below w.heap.size w wx
  zero : Blk wx w.heap.size #[.string { data := #[] }, .int .i64 0, .int .i64 0, .int .i64 0, .slice none 0 0] 27
  man : Blk wx gm (mCells p v1 v2 v3 sv) 27
  toks : TokLow wx gm tv ts
  row : wx.ownsRow (gm + 1) 41 7 sv ds.length (depFlat ds)
  wg : w.heap.size < gm
theorem RfSt.quiet {w wx wy : World} {gm : Nat} {tv : Value} {ts : List Tok} {p : ByteArray} {v1 v2 v3 : Int} {sv : Value} {ds : List Dp} (h : RfSt w gm tv ts wx p v1 v2 v3 sv ds) (hb : Below wx.heap.size wx wy) : RfSt w gm tv ts wy p v1 v2 v3 sv ds where
  below := h.below.trans (hb.mono h.below.size)
  zero := h.zero.under hb h.zero.lt
  man := h.man.under hb h.man.lt
  toks := h.toks.keep fun q hq => hb.cell (Nat.lt_trans hq h.man.lt)
  row := owns_under h.row hb
  wg := h.wg
theorem RfSt.put {w wx : World} {gm : Nat} {tv : Value} {ts : List Tok} {p : ByteArray} {v1 v2 v3 : Int} {sv : Value} {ds : List Dp} (h : RfSt w gm tv ts wx p v1 v2 v3 sv ds) (j : Nat) (x : Value) {p' : ByteArray} {u1 u2 u3 : Int} (hc : (mCells p v1 v2 v3 sv).setIfInBounds j x = mCells p' u1 u2 u3 sv) : RfSt w gm tv ts (wx.setCell ⟨gm, j, none⟩ x) p' u1 u2 u3 sv ds where
  below := h.below.setCell (p := ⟨gm, j, none⟩) (by have := h.wg; simp only; omega) _
  zero := h.zero.far ⟨gm, j, none⟩ x (by have := h.wg; simp only; omega)
  man := by rw [← hc]; exact h.man.set j x
  toks := h.toks.keep fun q hq => World.cell?_setCell_other wx ⟨gm, j, none⟩ q x (fun e => by subst e; simp at hq)
  row := owns_keep h.row fun b hb => Below.heap_setCell wx ⟨gm, j, none⟩ x b (by have := (owns_lt h.row hb).1; simp only; omega)
  wg := h.wg
theorem RfSt.push {w wx wz wy : World} {gm : Nat} {tv : Value} {ts : List Tok} {p : ByteArray} {v1 v2 v3 : Int} {sv v' : Value} {ds : List Dp} {d : Dp} (h : RfSt w gm tv ts wx p v1 v2 v3 sv ds) (hb : Below wx.heap.size wx wz)
    (hown : wy.ownsRow (gm + 1) 41 7 v' (ds.length + 1) (depFlat ds ++ (depV d.1 d.2).toList)) (hg : wz.grownBy wy sv.ownBlock) : RfSt w gm tv ts (wy.setCell ⟨gm, 4, none⟩ v') p v1 v2 v3 v' (ds ++ [d]) := by
  have hz := h.quiet hb
  have hself : ∀ b, sv.ownBlock = some b → gm + 1 ≤ b := fun b hb' => (owns_lt hz.row hb').1
  have hkeep : ∀ b, b < wz.heap.size → b ≤ gm → wy.heap[b]? = wz.heap[b]? := fun b hlt hle => hg.block b hlt (fun e => by have := hself b e.symm; omega)
  have hset : ∀ b, b ≠ gm → (wy.setCell ⟨gm, 4, none⟩ v').heap[b]? = wy.heap[b]? := fun b hne => Below.heap_setCell wy ⟨gm, 4, none⟩ v' b (by simpa using hne)
  have hwg := h.wg
  have hzl : gm < wz.heap.size := hz.man.lt
  have hmanY : Blk wy gm (mCells p v1 v2 v3 sv) 27 := (hkeep gm hzl (Nat.le_refl _)).trans hz.man
  refine { below := ?_, zero := ?_, man := ?_, toks := ?_, row := ?_, wg := hwg }
  · exact (hz.below.grown hg (by omega) (fun b hb' => by have := hself b hb'; omega)).setCell (p := ⟨gm, 4, none⟩) (by simp only; omega) _
  · exact ((hset _ (by omega)).trans (hkeep _ (by omega) (by omega))).trans hz.zero
  · exact hmanY.set 4 v'
  · refine hz.toks.keep fun q hq => ?_
    unfold World.cell?
    rw [hset _ (by omega), hkeep _ (by omega) (by omega)]
  · rw [List.length_append, depFlat_push]
    exact owns_keep hown fun b hb' => hset b (by have := (owns_lt hown hb').1; omega)
/-- what merlonref14.Parse answers -/
def RManAns (s : ByteArray) (w : World) (e : Ending) (w' : World) : Prop :=
  Below w.heap.size w w' ∧ ((∃ ts k, scanAll s = (ts, some k) ∧ e = .returned (.tuple #[.agg manZ, .int .i64 2, .int .i64 (k : Nat)])) ∨
    (∃ ts, scanAll s = (ts, none) ∧ refM (ts.map Tok.text) = none ∧ e = .returned (.tuple #[.agg manZ, .int .i64 2, .int .i64 (-1)])) ∨
    (∃ ts p v ds A cap, scanAll s = (ts, none) ∧ refM (ts.map Tok.text) = some (p, v, ds) ∧ e = .returned (.tuple #[.agg (manV p v.1 v.2.1 v.2.2 A ds.length cap), .int .i64 0, .int .i64 (-1)]) ∧ DepsAt w' A ds))
theorem laidR (w : World) (C : Array Value) (T : TypeId) : Below w.heap.size w ((w.alloc (.cells C T)).drew) ∧ Blk ((w.alloc (.cells C T)).drew) w.heap.size C T ∧ ((w.alloc (.cells C T)).drew).heap.size = w.heap.size + 1 := ⟨((Below.refl _ _).alloc (Nat.le_refl _) _).drew, (Blk.new _ _ _).drew, by show (w.alloc (.cells C T)).heap.size = _; simp⟩
theorem grownR {w w' : World} {self : Option Nat} {b : Nat} {C : Array Value} {T : TypeId} (hg : w.grownBy w' self) (h : Blk w b C T) (hne : self ≠ some b) : Blk w' b C T := (hg.block b h.lt (fun e => hne e.symm)).trans h
theorem bq_yes {a b : ByteArray} (h : a = b) : (a.toList == b.toList) = true := by rw [h]; exact beq_self_eq_true _
theorem bq_no {a b : ByteArray} (h : a ≠ b) : (a.toList == b.toList) = false := by rw [beq_eq_false_iff_ne]; exact fun e => h ((bytes_eqV a b).mp e)
theorem kPkg_l : kPkg.toList = [112, 97, 99, 107, 97, 103, 101] := by rw [ByteArray.toList_eq]; rfl
theorem kVer_l : kVer.toList = [118, 101, 114, 115, 105, 111, 110] := by rw [ByteArray.toList_eq]; rfl
theorem kDep_l : kDep.toList = [100, 101, 112] := by rw [ByteArray.toList_eq]; rfl
theorem kDots_l : kDots.toList = [46, 46] := by rw [ByteArray.toList_eq]; rfl
theorem getB_drop (xs : List ByteArray) (j i : Nat) : getB (xs.drop j) i = getB xs (j + i) := by
  unfold getB
  rw [List.getD_eq_getElem?_getD, List.getD_eq_getElem?_getD, List.getElem?_drop]
theorem getB_text (ts : List Tok) (i : Nat) (h : i < ts.length) : getB (ts.map Tok.text) i = ts[i].text := by
  unfold getB
  rw [List.getD_eq_getElem?_getD, List.getElem?_map, List.getElem?_eq_getElem h]; rfl
theorem refM_none {ts : List ByteArray} (h : ¬ (8 ≤ ts.length ∧ (ts.length - 8) % 13 = 0 ∧ getB ts 0 = kPkg ∧ getB ts 2 = kVer)) : refM ts = none := by
  rw [refM, if_neg fun h' => h h'.1]
theorem refM_chk {ts : List ByteArray} (h : chksR ((ts.length - 8) / 13) (ts.drop 8) = false) : refM ts = none := by
  rw [refM, if_neg fun h' => by rw [h] at h'; exact absurd h'.2.1 (by decide)]
theorem chks_bad {u : List ByteArray} {m k : Nat} (hk : k < m) (h : cOk (u.drop (13 * k)) = false) : chksR m u = false := by
  unfold chksR
  rw [List.all_eq_false]
  exact ⟨k, List.mem_range.2 hk, by simpa using h⟩
theorem chks_snoc {u : List ByteArray} {k : Nat} (h : chksR k u = true) (h2 : cOk (u.drop (13 * k)) = true) : chksR (k + 1) u = true := by
  unfold chksR at h ⊢
  rw [List.range_succ, List.all_append, h]
  simp [h2]
theorem depsR_snoc (u : List ByteArray) (k : Nat) : depsR (k + 1) u = depsR k u ++ [cDep (u.drop (13 * k))] := by
  unfold depsR
  rw [List.range_succ, List.map_append]; rfl
theorem depsR_len (u : List ByteArray) (k : Nat) : (depsR k u).length = k := by simp [depsR]
theorem getB_size {B : Nat} {xs : List ByteArray} (h : ∀ t ∈ xs, t.size ≤ B) (i : Nat) : (getB xs i).size ≤ B := by
  unfold getB
  rw [List.getD_eq_getElem?_getD]
  cases hx : xs[i]? with
  | none => exact Nat.zero_le _
  | some t => exact h t (List.mem_of_getElem? hx)
theorem depsR_size {B : Nat} {u : List ByteArray} (h : ∀ t ∈ u, t.size ≤ B) (k : Nat) : ∀ d ∈ depsR k u, d.1.size ≤ B := by
  intro d hd
  obtain ⟨j, -, rfl⟩ := List.mem_map.1 hd
  exact getB_size (fun t ht => h t (List.mem_of_mem_drop ht)) 1
set_option maxRecDepth 100000 in
set_option maxHeartbeats 40000000 in
theorem refManParse_c (s : ByteArray) (w : World) (hs : s.size ≤ 20000) : Calls Tryz.prog 7 #[.string s] w (RManAns s w) := by
  obtain ⟨i1, ki, kz0, kz1, kz2⟩ := info_parts info_depM
  go_enter Tryz.func7, Tryz.ntmps7
  go_upto_region 1 with fail
  have x0 := Blk.new w #[.string { data := #[] }, .int .i64 0, .int .i64 0, .int .i64 0, .slice none 0 0] 27
  have xb := (Below.refl w.heap.size w).alloc (Nat.le_refl _) (.cells #[.string { data := #[] }, .int .i64 0, .int .i64 0, .int .i64 0, .slice none 0 0] 27)
  generalize (w.alloc (.cells #[.string { data := #[] }, .int .i64 0, .int .i64 0, .int .i64 0, .slice none 0 0] 27)) = W at x0 xb ⊢
  have BZ := Lib.hid x0
  have A0 := Lib.hid xb
  clear x0 xb
  go_wp2_with fail
  refine (refTokens_c s W hs).mono ?_
  rintro e w1 ⟨hb1, hans⟩
  have BZ1 := Lib.hid (BZ.out.under hb1 BZ.out.lt)
  have A1 := Lib.hid (A0.out.trans (hb1.mono A0.out.size))
  have hW1 := hb1.size
  clear hb1
  rcases hans with ⟨ts, sv0, hsc, hlen, rfl, hrow⟩ | ⟨ts, k, hsc, hk, rfl⟩
  rotate_left
  · have HSC := Lib.hid hsc
    have hk0 : (0 : Int) ≤ (k : Int) := by omega
    clear hsc
    have ZB := BZ1.out
    obtain ⟨k0, k1, k2, k3, k4⟩ := cells5 ZB
    have f0 := ZB.free 0
    have f1 := ZB.free 1
    have f2 := ZB.free 2
    have f3 := ZB.free 3
    have f4 := ZB.free 4
    have lz := ZB.lt
    go_wp2_with fail
    have hp := put5_full (.string { data := #[] }) (.int .i64 0) (.int .i64 0) (.int .i64 0) (.slice none 0 0) ZB
    have hbp := put5_bel (.string { data := #[] }) (.int .i64 0) (.int .i64 0) (.int .i64 0) (.slice none 0 0) A1.out (Nat.le_refl _)
    generalize (((((w1.setCell ⟨w.heap.size, 0, none⟩ (.string { data := #[] })).setCell ⟨w.heap.size, 1, none⟩ (.int .i64 0)).setCell ⟨w.heap.size, 2, none⟩ (.int .i64 0)).setCell ⟨w.heap.size, 3, none⟩ (.int .i64 0)).setCell ⟨w.heap.size, 4, none⟩ (.slice none 0 0)) = Wz at hp hbp ⊢
    obtain ⟨r0, r1, r2, r3, r4⟩ := cells5 hp
    refine bodyPost_ret (by simp [results, Tryz.results7, go_sem, r0, r1, r2, r3, r4]; try rfl) rfl ?_
    exact ⟨hbp, .inl ⟨ts, k, HSC.out, rfl⟩⟩
  have hT := TokLow.of (TokAt.own hrow)
  have hT' := Lib.hid hT
  obtain ⟨p0, cap0, rfl, hc⟩ := hT
  have HC := Lib.hid hc
  have HSC := Lib.hid hsc
  have htx := texts_le hsc
  obtain ⟨xs, hxs⟩ : ∃ xs, ts.map Tok.text = xs := ⟨_, rfl⟩
  rw [hxs] at htx
  have hxl : xs.length = ts.length := by rw [← hxs, List.length_map]
  have HTX := Lib.hid (fun t ht => Nat.le_trans (htx t ht) hs)
  have HTT := Lib.hid (show ∀ t ∈ ts, t.text.size ≤ 20000 from fun t ht => Nat.le_trans (htx t.text (by rw [← hxs]; exact List.mem_map.2 ⟨t, ht, rfl⟩)) hs)
  have hl20 : ts.length ≤ 20000 := by omega
  have HXS := Lib.hid hxs
  have HXL := Lib.hid hxl
  clear hrow hc hsc htx hxs hxl hlen hs
  by_cases h8 : ts.length < 8
  · have h8I : (ts.length : Int) < 8 := by omega
    have hn : refM (ts.map Tok.text) = none := refM_none fun h => by rw [List.length_map] at h; omega
    have HN := Lib.hid hn
    clear hn
    have ZB := BZ1.out
    obtain ⟨k0, k1, k2, k3, k4⟩ := cells5 ZB
    have f0 := ZB.free 0
    have f1 := ZB.free 1
    have f2 := ZB.free 2
    have f3 := ZB.free 3
    have f4 := ZB.free 4
    have lz := ZB.lt
    go_wp2_with fail
    have hp := put5_full (.string { data := #[] }) (.int .i64 0) (.int .i64 0) (.int .i64 0) (.slice none 0 0) ZB
    have hbp := put5_bel (.string { data := #[] }) (.int .i64 0) (.int .i64 0) (.int .i64 0) (.slice none 0 0) A1.out (Nat.le_refl _)
    generalize (((((w1.setCell ⟨w.heap.size, 0, none⟩ (.string { data := #[] })).setCell ⟨w.heap.size, 1, none⟩ (.int .i64 0)).setCell ⟨w.heap.size, 2, none⟩ (.int .i64 0)).setCell ⟨w.heap.size, 3, none⟩ (.int .i64 0)).setCell ⟨w.heap.size, 4, none⟩ (.slice none 0 0)) = Wz at hp hbp ⊢
    obtain ⟨r0, r1, r2, r3, r4⟩ := cells5 hp
    refine bodyPost_ret (by simp [results, Tryz.results7, go_sem, r0, r1, r2, r3, r4]; try rfl) rfl ?_
    exact ⟨hbp, .inr (.inl ⟨ts, HSC.out, HN.out, rfl⟩)⟩
  have h8I : ¬ (ts.length : Int) < 8 := by omega
  have h8J : (8 : Int) ≤ (ts.length : Int) := by omega
  by_cases hmod : (ts.length - 8) % 13 = 0
  rotate_left
  · have hmI : ¬ ((ts.length : Int) - 8) % 13 = 0 := by omega
    have hn : refM (ts.map Tok.text) = none := refM_none fun h => by rw [List.length_map] at h; omega
    have HN := Lib.hid hn
    clear hn hmod
    have ZB := BZ1.out
    obtain ⟨k0, k1, k2, k3, k4⟩ := cells5 ZB
    have f0 := ZB.free 0
    have f1 := ZB.free 1
    have f2 := ZB.free 2
    have f3 := ZB.free 3
    have f4 := ZB.free 4
    have lz := ZB.lt
    go_wp2_with fail
    have hp := put5_full (.string { data := #[] }) (.int .i64 0) (.int .i64 0) (.int .i64 0) (.slice none 0 0) ZB
    have hbp := put5_bel (.string { data := #[] }) (.int .i64 0) (.int .i64 0) (.int .i64 0) (.slice none 0 0) A1.out (Nat.le_refl _)
    generalize (((((w1.setCell ⟨w.heap.size, 0, none⟩ (.string { data := #[] })).setCell ⟨w.heap.size, 1, none⟩ (.int .i64 0)).setCell ⟨w.heap.size, 2, none⟩ (.int .i64 0)).setCell ⟨w.heap.size, 3, none⟩ (.int .i64 0)).setCell ⟨w.heap.size, 4, none⟩ (.slice none 0 0)) = Wz at hp hbp ⊢
    obtain ⟨r0, r1, r2, r3, r4⟩ := cells5 hp
    refine bodyPost_ret (by simp [results, Tryz.results7, go_sem, r0, r1, r2, r3, r4]; try rfl) rfl ?_
    exact ⟨hbp, .inr (.inl ⟨ts, HSC.out, HN.out, rfl⟩)⟩
  have hmI : ((ts.length : Int) - 8) % 13 = 0 := by omega
  obtain ⟨b0, o0, rfl, hb0, hc⟩ := HC.out (by omega)
  have d0 := (hc 0 (by omega)).2.2
  have d1 := (hc 1 (by omega)).2.2
  have d2 := (hc 2 (by omega)).2.2
  have e0 := getB_text ts 0 (by omega)
  have e1 := getB_text ts 1 (by omega)
  have e2 := getB_text ts 2 (by omega)
  generalize ts[0].text = X0 at d0 e0
  generalize ts[1].text = X1 at d1 e1
  generalize ts[2].text = X2 at d2 e2
  simp at d0 d1 d2
  have E0 := Lib.hid e0
  have E1 := Lib.hid e1
  have E2 := Lib.hid e2
  clear e0 e1 e2 hc
  by_cases hx0 : X0 = kPkg
  rotate_left
  · have hq0 := bq_no hx0
    have hn : refM (ts.map Tok.text) = none := refM_none fun h => hx0 (by rw [← E0.out]; exact h.2.2.1)
    have HN := Lib.hid hn
    clear hn hmod hx0
    rw [kPkg_l] at hq0
    have ZB := BZ1.out
    obtain ⟨k0, k1, k2, k3, k4⟩ := cells5 ZB
    have f0 := ZB.free 0
    have f1 := ZB.free 1
    have f2 := ZB.free 2
    have f3 := ZB.free 3
    have f4 := ZB.free 4
    have lz := ZB.lt
    go_wp2_with fail
    have hp := put5_full (.string { data := #[] }) (.int .i64 0) (.int .i64 0) (.int .i64 0) (.slice none 0 0) ZB
    have hbp := put5_bel (.string { data := #[] }) (.int .i64 0) (.int .i64 0) (.int .i64 0) (.slice none 0 0) A1.out (Nat.le_refl _)
    generalize (((((w1.setCell ⟨w.heap.size, 0, none⟩ (.string { data := #[] })).setCell ⟨w.heap.size, 1, none⟩ (.int .i64 0)).setCell ⟨w.heap.size, 2, none⟩ (.int .i64 0)).setCell ⟨w.heap.size, 3, none⟩ (.int .i64 0)).setCell ⟨w.heap.size, 4, none⟩ (.slice none 0 0)) = Wz at hp hbp ⊢
    obtain ⟨r0, r1, r2, r3, r4⟩ := cells5 hp
    refine bodyPost_ret (by simp [results, Tryz.results7, go_sem, r0, r1, r2, r3, r4]; try rfl) rfl ?_
    exact ⟨hbp, .inr (.inl ⟨ts, HSC.out, HN.out, rfl⟩)⟩
  have hq0 := bq_yes hx0
  by_cases hx2 : X2 = kVer
  rotate_left
  · have hq2 := bq_no hx2
    have hn : refM (ts.map Tok.text) = none := refM_none fun h => hx2 (by rw [← E2.out]; exact h.2.2.2)
    have HN := Lib.hid hn
    clear hn hmod hx0 hx2
    rw [kPkg_l] at hq0
    rw [kVer_l] at hq2
    have ZB := BZ1.out
    obtain ⟨k0, k1, k2, k3, k4⟩ := cells5 ZB
    have f0 := ZB.free 0
    have f1 := ZB.free 1
    have f2 := ZB.free 2
    have f3 := ZB.free 3
    have f4 := ZB.free 4
    have lz := ZB.lt
    go_wp2_with fail
    have hp := put5_full (.string { data := #[] }) (.int .i64 0) (.int .i64 0) (.int .i64 0) (.slice none 0 0) ZB
    have hbp := put5_bel (.string { data := #[] }) (.int .i64 0) (.int .i64 0) (.int .i64 0) (.slice none 0 0) A1.out (Nat.le_refl _)
    generalize (((((w1.setCell ⟨w.heap.size, 0, none⟩ (.string { data := #[] })).setCell ⟨w.heap.size, 1, none⟩ (.int .i64 0)).setCell ⟨w.heap.size, 2, none⟩ (.int .i64 0)).setCell ⟨w.heap.size, 3, none⟩ (.int .i64 0)).setCell ⟨w.heap.size, 4, none⟩ (.slice none 0 0)) = Wz at hp hbp ⊢
    obtain ⟨r0, r1, r2, r3, r4⟩ := cells5 hp
    refine bodyPost_ret (by simp [results, Tryz.results7, go_sem, r0, r1, r2, r3, r4]; try rfl) rfl ?_
    exact ⟨hbp, .inr (.inl ⟨ts, HSC.out, HN.out, rfl⟩)⟩
  have hq2 := bq_yes hx2
  have HX := Lib.hid (And.intro hx0 hx2)
  have HMOD := Lib.hid hmod
  clear hmod hx0 hx2
  rw [kPkg_l] at hq0
  rw [kVer_l] at hq2
  go_upto_region 8 with fail
  have hst : RfSt w w1.heap.size (.slice (some ⟨b0, o0, none⟩) ts.length cap0) ts (w1.alloc (.cells (mCells X1 0 0 0 (.slice none 0 0)) 27)) X1 0 0 0 (.slice none 0 0) [] := by
    have hbA : Below w1.heap.size w1 (w1.alloc (.cells (mCells X1 0 0 0 (.slice none 0 0)) 27)) := (Below.refl _ _).alloc (Nat.le_refl _) _
    exact { below := A1.out.trans (hbA.mono A1.out.size), zero := BZ1.out.under hbA BZ1.out.lt, man := Blk.new _ _ _, toks := hT'.out.keep fun q hq => hbA.cell hq, row := World.ownsRow_nil _ _ _ _, wg := BZ1.out.lt }
  have S0 := Lib.hid hst
  simp only [mCells] at S0
  generalize (w1.alloc (.cells #[.string X1, .int .i64 0, .int .i64 0, .int .i64 0, .slice none 0 0] 27)) = wa at S0 ⊢
  generalize w1.heap.size = gm at S0 hb0 ⊢
  clear hst d0 d1 d2
  obtain ⟨L, hL⟩ : ∃ x, catL ((xs.drop 3).take 5) = x := ⟨_, rfl⟩
  have T1 := fun w h => refText_c ts (.slice (some ⟨b0, o0, none⟩) ts.length cap0) gm w h 3 (by omega) hl20 HTT.out
  simp only [HXS.out, hL, Int.cast_ofNat_Int] at T1
  have T2 := fun w => refParse_c (ba L) w
  obtain ⟨⟨v1, v2, v3⟩, hv⟩ : ∃ x, parV L = x := ⟨_, rfl⟩
  obtain ⟨ok, hok⟩ : ∃ x, (parseF L).isSome = x := ⟨_, rfl⟩
  simp only [ba_data, hv, hok, ver] at T2
  have HT1 := Lib.hid T1
  have HT2 := Lib.hid T2
  have HV := Lib.hid (And.intro hL (And.intro hv hok))
  clear T1 T2 hL hv hok
  go_upto_region 9 with (first
    | (go_at_call 20; refine (HT1.out _ S0.out.toks).mono ?_; rintro e wq ⟨rfl, rfl⟩)
    | (go_at_call 19; refine (HT2.out _).mono ?_; rintro e wb ⟨rfl, hb⟩; have S1 := Lib.hid (S0.out.quiet hb); clear hb))
  have S2 := Lib.hid (S1.out.quiet ((Below.refl wb.heap.size wb).alloc (Nat.le_refl _) (.cells #[.int .i64 v1, .int .i64 v2, .int .i64 v3] 24)))
  have BV := Blk.new wb #[.int .i64 v1, .int .i64 v2, .int .i64 v3] 24
  have hgv : gm < wb.heap.size := S1.out.man.lt
  generalize (wb.alloc (.cells #[.int .i64 v1, .int .i64 v2, .int .i64 v3] 24)) = wc at S2 BV ⊢
  generalize wb.heap.size = gv at BV hgv ⊢
  have c0 := BV.cell 0
  have c1 := BV.cell 1
  have c2 := BV.cell 2
  simp at c0 c1 c2
  have lv := BV.lt
  have f1 := S2.out.man.free 1
  have f2 := S2.out.man.free 2
  have f3 := S2.out.man.free 3
  have lm := S2.out.man.lt
  have m1 := S2.out.man.cell 1
  have m2 := S2.out.man.cell 2
  have m3 := S2.out.man.cell 3
  simp [mCells] at m1 m2 m3
  go_upto_region 10 with fail
  have S3 := Lib.hid (((S2.out.put 1 (.int .i64 v1) (p' := X1) (u1 := v1) (u2 := 0) (u3 := 0) rfl).put 2 (.int .i64 v2) (p' := X1) (u1 := v1) (u2 := v2) (u3 := 0) rfl).put 3 (.int .i64 v3) (p' := X1) (u1 := v1) (u2 := v2) (u3 := v3) rfl)
  generalize (((wc.setCell ⟨gm, 1, none⟩ (.int .i64 v1)).setCell ⟨gm, 2, none⟩ (.int .i64 v2)).setCell ⟨gm, 3, none⟩ (.int .i64 v3)) = wd at S3 ⊢
  clear BV c0 c1 c2 lv f1 f2 f3 lm m1 m2 m3 hgv
  obtain ⟨M, hM⟩ : ∃ M, ts.length = 8 + 13 * M := ⟨(ts.length - 8) / 13, by have := HMOD.out; omega⟩
  have hMd : (xs.length - 8) / 13 = M := by have := HXL.out; omega
  have HMD := Lib.hid hMd
  have HMM := Lib.hid hM
  clear hMd hM
  go_wp2_with fail
  go_loopw [11] (fun iv wr => ∃ k : Nat, k ≤ M ∧ iv = .int .i64 ((8 + 13 * k : Nat) : Int) ∧ ∃ sv, RfSt w gm (.slice (some ⟨b0, o0, none⟩) ts.length cap0) ts wr X1 v1 v2 v3 sv (depsR k (xs.drop 8)) ∧ chksR k (xs.drop 8) = true) (fun iv _ => ts.length - (intOf iv).toNat)
  case atStart => exact ⟨0, Nat.zero_le _, rfl, _, S3.out, rfl⟩
  case round =>
    obtain ⟨k, hk, rfl, sv, hst, hck⟩ := hrel
    have S4 := Lib.hid hst
    have HCK := Lib.hid hck
    clear hst hck S0 S1 S2 S3 HT1 HT2
    by_cases hlt : k < M
    · obtain ⟨j, hj⟩ : ∃ j, 8 + 13 * k = j := ⟨_, rfl⟩
      rw [hj]
      have hjl : j + 13 ≤ ts.length := by have := HMM.out; omega
      have hjI : (j : Int) < (ts.length : Int) := by omega
      have hj0 : (j : Int) ≤ 20000 := by omega
      obtain ⟨b, o, e, hbl, hc⟩ : ∃ b o, (some ⟨b0, o0, none⟩ : Option Addr) = some ⟨b, o, none⟩ ∧ b < gm ∧ ∀ i (h : i < ts.length),
          wr.cell? ⟨b, o + i * 3, none⟩ = some (.int .i64 (ts[i].kind : Nat)) ∧ wr.cell? ⟨b, o + i * 3 + 1, none⟩ = some (.int .i64 (ts[i].at_ : Nat)) ∧ wr.cell? ⟨b, o + i * 3 + 2, none⟩ = some (.string ts[i].text) := by
        obtain ⟨p, cap, e, hc⟩ := S4.out.toks
        injection e with e1 e2 e3
        subst e1
        exact hc (by omega)
      injection e with e
      injection e with e1 e2
      subst e1 e2
      have d0 := (hc j (by omega)).2.2
      have d1 := (hc (j + 1) (by omega)).2.2
      have d7 := (hc (j + 7) (by omega)).2.2
      have e0 := getB_text ts j (by omega)
      have e1 := getB_text ts (j + 1) (by omega)
      have e7 := getB_text ts (j + 7) (by omega)
      generalize ts[j].text = Y0 at d0 e0
      generalize ts[j + 1].text = Y1 at d1 e1
      generalize ts[j + 7].text = Y7 at d7 e7
      rw [HXS.out] at e0 e1 e7
      obtain ⟨L1, hL1⟩ : ∃ x, catL ((xs.drop (j + 2)).take 5) = x := ⟨_, rfl⟩
      obtain ⟨L2, hL2⟩ : ∃ x, catL ((xs.drop (j + 8)).take 5) = x := ⟨_, rfl⟩
      have T1 := fun w h => refText_c ts (.slice (some ⟨b0, o0, none⟩) ts.length cap0) gm w h (j + 2) (by omega) hl20 HTT.out
      simp only [HXS.out, hL1, Int.natCast_add, Int.cast_ofNat_Int] at T1
      have T2 := fun w h => refText_c ts (.slice (some ⟨b0, o0, none⟩) ts.length cap0) gm w h (j + 8) (by omega) hl20 HTT.out
      simp only [HXS.out, hL2, Int.natCast_add, Int.cast_ofNat_Int] at T2
      obtain ⟨⟨a1, a2, a3⟩, hva⟩ : ∃ x, parV L1 = x := ⟨_, rfl⟩
      obtain ⟨oka, hoka⟩ : ∃ x, (parseF L1).isSome = x := ⟨_, rfl⟩
      obtain ⟨⟨c1, c2, c3⟩, hvc⟩ : ∃ x, parV L2 = x := ⟨_, rfl⟩
      obtain ⟨okc, hokc⟩ : ∃ x, (parseF L2).isSome = x := ⟨_, rfl⟩
      have P1 := fun w => refParse_c (ba L1) w
      have P2 := fun w => refParse_c (ba L2) w
      simp only [ba_data, hva, hoka, ver] at P1
      simp only [ba_data, hvc, hokc, ver] at P2
      have hcOk : cOk ((xs.drop 8).drop (13 * k)) = ((decide (Y0 = kDep) && decide (Y7 = kDots)) && (oka && okc)) := by
        rw [List.drop_drop, hj, cOk, getB_drop, getB_drop, List.drop_drop, List.drop_drop, hL1, hL2, hoka, hokc, e7, Nat.add_zero, e0]
      have hcDep : cDep ((xs.drop 8).drop (13 * k)) = (Y1, ((a1, a2, a3), (c1, c2, c3))) := by
        rw [List.drop_drop, hj, cDep, getB_drop, List.drop_drop, List.drop_drop, hL1, hL2, hva, hvc, e1]
      have HOK := Lib.hid hcOk
      have HDP := Lib.hid hcDep
      have HT1 := Lib.hid T1
      have HT2 := Lib.hid T2
      have HP1 := Lib.hid P1
      have HP2 := Lib.hid P2
      have D := Lib.hid (And.intro d0 (And.intro d1 d7))
      have HJ := Lib.hid hj
      clear hcOk hcDep T1 T2 P1 P2 hL1 hL2 hva hvc hoka hokc e0 e1 e7 hc d0 d1 d7 hq0 hq2 hj
      go_upto_region 14 with (first
        | (go_at_call 20; refine (HT1.out _ S4.out.toks).mono ?_; rintro e wq ⟨rfl, rfl⟩)
        | (go_at_call 19; refine (HP1.out _).mono ?_; rintro e wb ⟨rfl, hb⟩; have S5 := Lib.hid (S4.out.quiet hb); have D5 := Lib.hid hb; clear hb))
      have S6 := Lib.hid (S5.out.quiet ((Below.refl wb.heap.size wb).alloc (Nat.le_refl _) (.cells #[.int .i64 a1, .int .i64 a2, .int .i64 a3] 24)))
      have BL := Lib.hid (Blk.new wb #[.int .i64 a1, .int .i64 a2, .int .i64 a3] 24)
      have D6 := Lib.hid (acc0 D5.out D5.out.size ((Below.refl wb.heap.size wb).alloc (Nat.le_refl _) (.cells #[.int .i64 a1, .int .i64 a2, .int .i64 a3] 24)))
      have hgl : gm < wb.heap.size := S5.out.man.lt
      generalize (wb.alloc (.cells #[.int .i64 a1, .int .i64 a2, .int .i64 a3] 24)) = wc' at S6 BL D6 ⊢
      generalize wb.heap.size = gl at BL hgl ⊢
      go_upto_region 15 with (first
        | (go_at_call 20; refine (HT2.out _ S6.out.toks).mono ?_; rintro e wq ⟨rfl, rfl⟩)
        | (go_at_call 19; refine (HP2.out _).mono ?_; rintro e we ⟨rfl, hb⟩; have S7 := Lib.hid (S6.out.quiet hb); have D7 := Lib.hid (acc0 D6.out D6.out.size hb); have BL7 := Lib.hid (BL.out.under hb BL.out.lt); clear hb))
      have hbx := (Below.refl we.heap.size we).alloc (Nat.le_refl _) (.cells #[.int .i64 c1, .int .i64 c2, .int .i64 c3] 24)
      have S8 := Lib.hid (S7.out.quiet hbx)
      have BL8 := Lib.hid (BL7.out.under hbx BL7.out.lt)
      have BH := Lib.hid (Blk.new we #[.int .i64 c1, .int .i64 c2, .int .i64 c3] 24)
      have D8 := Lib.hid (acc0 D7.out D7.out.size hbx)
      clear hbx
      have hgh : gm < we.heap.size := S7.out.man.lt
      generalize (we.alloc (.cells #[.int .i64 c1, .int .i64 c2, .int .i64 c3] 24)) = wf at S8 BL8 BH D8 ⊢
      generalize we.heap.size = gh at BH hgh ⊢
      have hbw := Nat.lt_trans hbl S4.out.man.lt
      have d0 := (D8.out.cell (p := ⟨b0, _, none⟩) hbw).trans D.out.1
      have d1 := (D8.out.cell (p := ⟨b0, _, none⟩) hbw).trans D.out.2.1
      have d7 := (D8.out.cell (p := ⟨b0, _, none⟩) hbw).trans D.out.2.2
      have D1 := Lib.hid d1
      clear d1
      clear HT1 HT2 HP1 HP2 S5 S6 S7 BL BL7 D5 D6 D7
      by_cases hy0 : Y0 = kDep
      rotate_left
      · have hq0 := bq_no hy0
        have hn : refM (ts.map Tok.text) = none := by
          rw [HXS.out]
          exact refM_chk (chks_bad (k := k) (by rw [HMD.out]; exact hlt) (by rw [HOK.out]; simp [hy0]))
        have HN := Lib.hid hn
        clear hn hy0
        rw [kDep_l] at hq0
        have ZB := S8.out.zero
        obtain ⟨k0, k1, k2, k3, k4⟩ := cells5 ZB
        have f0 := ZB.free 0
        have f1 := ZB.free 1
        have f2 := ZB.free 2
        have f3 := ZB.free 3
        have f4 := ZB.free 4
        have lz := ZB.lt
        go_wp2_with fail
        have hp := put5_full (.string { data := #[] }) (.int .i64 0) (.int .i64 0) (.int .i64 0) (.slice none 0 0) ZB
        have hbp := put5_bel (.string { data := #[] }) (.int .i64 0) (.int .i64 0) (.int .i64 0) (.slice none 0 0) S8.out.below (Nat.le_refl _)
        generalize (((((wf.setCell ⟨w.heap.size, 0, none⟩ (.string { data := #[] })).setCell ⟨w.heap.size, 1, none⟩ (.int .i64 0)).setCell ⟨w.heap.size, 2, none⟩ (.int .i64 0)).setCell ⟨w.heap.size, 3, none⟩ (.int .i64 0)).setCell ⟨w.heap.size, 4, none⟩ (.slice none 0 0)) = Wz at hp hbp ⊢
        obtain ⟨r0, r1, r2, r3, r4⟩ := cells5 hp
        refine bodyPost_ret (by simp [results, Tryz.results7, go_sem, r0, r1, r2, r3, r4]; try rfl) rfl ?_
        exact ⟨hbp, .inr (.inl ⟨ts, HSC.out, HN.out, rfl⟩)⟩
      have hq0 := bq_yes hy0
      by_cases hy7 : Y7 = kDots
      rotate_left
      · have hq7 := bq_no hy7
        have hn : refM (ts.map Tok.text) = none := by
          rw [HXS.out]
          exact refM_chk (chks_bad (k := k) (by rw [HMD.out]; exact hlt) (by rw [HOK.out]; simp [hy7]))
        have HN := Lib.hid hn
        clear hn hy0 hy7
        rw [kDep_l] at hq0
        rw [kDots_l] at hq7
        have ZB := S8.out.zero
        obtain ⟨k0, k1, k2, k3, k4⟩ := cells5 ZB
        have f0 := ZB.free 0
        have f1 := ZB.free 1
        have f2 := ZB.free 2
        have f3 := ZB.free 3
        have f4 := ZB.free 4
        have lz := ZB.lt
        go_wp2_with fail
        have hp := put5_full (.string { data := #[] }) (.int .i64 0) (.int .i64 0) (.int .i64 0) (.slice none 0 0) ZB
        have hbp := put5_bel (.string { data := #[] }) (.int .i64 0) (.int .i64 0) (.int .i64 0) (.slice none 0 0) S8.out.below (Nat.le_refl _)
        generalize (((((wf.setCell ⟨w.heap.size, 0, none⟩ (.string { data := #[] })).setCell ⟨w.heap.size, 1, none⟩ (.int .i64 0)).setCell ⟨w.heap.size, 2, none⟩ (.int .i64 0)).setCell ⟨w.heap.size, 3, none⟩ (.int .i64 0)).setCell ⟨w.heap.size, 4, none⟩ (.slice none 0 0)) = Wz at hp hbp ⊢
        obtain ⟨r0, r1, r2, r3, r4⟩ := cells5 hp
        refine bodyPost_ret (by simp [results, Tryz.results7, go_sem, r0, r1, r2, r3, r4]; try rfl) rfl ?_
        exact ⟨hbp, .inr (.inl ⟨ts, HSC.out, HN.out, rfl⟩)⟩
      have hq7 := bq_yes hy7
      cases oka
      · have hn : refM (ts.map Tok.text) = none := by
          rw [HXS.out]
          exact refM_chk (chks_bad (k := k) (by rw [HMD.out]; exact hlt) (by rw [HOK.out]; simp))
        have HN := Lib.hid hn
        clear hn hy0 hy7
        rw [kDep_l] at hq0
        rw [kDots_l] at hq7
        have ZB := S8.out.zero
        obtain ⟨k0, k1, k2, k3, k4⟩ := cells5 ZB
        have f0 := ZB.free 0
        have f1 := ZB.free 1
        have f2 := ZB.free 2
        have f3 := ZB.free 3
        have f4 := ZB.free 4
        have lz := ZB.lt
        go_wp2_with fail
        have hp := put5_full (.string { data := #[] }) (.int .i64 0) (.int .i64 0) (.int .i64 0) (.slice none 0 0) ZB
        have hbp := put5_bel (.string { data := #[] }) (.int .i64 0) (.int .i64 0) (.int .i64 0) (.slice none 0 0) S8.out.below (Nat.le_refl _)
        generalize (((((wf.setCell ⟨w.heap.size, 0, none⟩ (.string { data := #[] })).setCell ⟨w.heap.size, 1, none⟩ (.int .i64 0)).setCell ⟨w.heap.size, 2, none⟩ (.int .i64 0)).setCell ⟨w.heap.size, 3, none⟩ (.int .i64 0)).setCell ⟨w.heap.size, 4, none⟩ (.slice none 0 0)) = Wz at hp hbp ⊢
        obtain ⟨r0, r1, r2, r3, r4⟩ := cells5 hp
        refine bodyPost_ret (by simp [results, Tryz.results7, go_sem, r0, r1, r2, r3, r4]; try rfl) rfl ?_
        exact ⟨hbp, .inr (.inl ⟨ts, HSC.out, HN.out, rfl⟩)⟩
      cases okc
      · have hn : refM (ts.map Tok.text) = none := by
          rw [HXS.out]
          exact refM_chk (chks_bad (k := k) (by rw [HMD.out]; exact hlt) (by rw [HOK.out]; simp))
        have HN := Lib.hid hn
        clear hn hy0 hy7
        rw [kDep_l] at hq0
        rw [kDots_l] at hq7
        have ZB := S8.out.zero
        obtain ⟨k0, k1, k2, k3, k4⟩ := cells5 ZB
        have f0 := ZB.free 0
        have f1 := ZB.free 1
        have f2 := ZB.free 2
        have f3 := ZB.free 3
        have f4 := ZB.free 4
        have lz := ZB.lt
        go_wp2_with fail
        have hp := put5_full (.string { data := #[] }) (.int .i64 0) (.int .i64 0) (.int .i64 0) (.slice none 0 0) ZB
        have hbp := put5_bel (.string { data := #[] }) (.int .i64 0) (.int .i64 0) (.int .i64 0) (.slice none 0 0) S8.out.below (Nat.le_refl _)
        generalize (((((wf.setCell ⟨w.heap.size, 0, none⟩ (.string { data := #[] })).setCell ⟨w.heap.size, 1, none⟩ (.int .i64 0)).setCell ⟨w.heap.size, 2, none⟩ (.int .i64 0)).setCell ⟨w.heap.size, 3, none⟩ (.int .i64 0)).setCell ⟨w.heap.size, 4, none⟩ (.slice none 0 0)) = Wz at hp hbp ⊢
        obtain ⟨r0, r1, r2, r3, r4⟩ := cells5 hp
        refine bodyPost_ret (by simp [results, Tryz.results7, go_sem, r0, r1, r2, r3, r4]; try rfl) rfl ?_
        exact ⟨hbp, .inr (.inl ⟨ts, HSC.out, HN.out, rfl⟩)⟩
      have hok1 : cOk ((xs.drop 8).drop (13 * k)) = true := by rw [HOK.out]; simp [hy0, hy7]
      have hck2 := chks_snoc HCK.out hok1
      have HCK2 := Lib.hid hck2
      clear hy0 hy7 hok1 hck2
      rw [kDep_l] at hq0
      rw [kDots_l] at hq7
      go_upto_region 17 with fail
      have hj1 : (j : Int) + 1 < (ts.length : Int) := by omega
      have hj10 : (0 : Int) ≤ (j : Int) + 1 := by omega
      have hjn : ((j : Int) + 1).toNat = j + 1 := by omega
      have hw1 : IntKind.i64.wrap ((j : Int) + 1) = (j : Int) + 1 := by rw [IntKind.wrap_i64]; omega
      refine wp_region_until [(12, fun w' => Blk w' gl #[.int .i64 a1, .int .i64 a2, .int .i64 a3] 24 ∧ Blk w' gh #[.int .i64 c1, .int .i64 c2, .int .i64 c3] 24 ∧ w'.cell? ⟨b0, o0 + (j + 1) * 3 + 2, none⟩ = some (.string Y1)), (13, fun w' => Blk w' gm (mCells X1 v1 v2 v3 sv) 27)] (by kernel_rfl) (Until.cons (fun _ => ⟨BL8.out.drew, BH.out.drew, D1.out⟩) (Until.cons (fun _ => S8.out.man.drew) Until.nil)) (fun hU => ?_)
      refine AnyU.take (i := 0) (v := ?_) rfl (by kernel_rfl) (by kernel_rfl) (by kernel_rfl) (fun _ _ _ h => h) (by kernel_rfl) (by assumption) (by rfl) ?_ (fun hV => ?_)
      rotate_left 1
      · (intro wq; go_simp; try with_reducible rfl)
      clear hU
      have hU := hV
      clear hV
      try simp only [Act.put, List.getElem_toArray, List.getElem_cons_zero, List.getElem_cons_succ, List.setIfInBounds_toArray, List.set_cons_zero, List.set_cons_succ]
      refine AnyU.loadc (i := 1) (d := 13) [13] (Si := fun w' => Blk w' gm (mCells X1 v1 v2 v3 sv) 27) (v := ?_) rfl (by kernel_rfl) (by kernel_rfl) (by kernel_rfl) (fun _ _ _ h => h) (by kernel_rfl) (by assumption) (by kernel_rfl) rfl (by simp) (by rfl) ?_ (fun hV => ?_)
      rotate_left 1
      · (intro wq hq; have u := hq.cell 4; simp [mCells] at u; go_simp; try with_reducible rfl)
      clear hU
      have hU := hV
      clear hV
      try simp only [Act.put, List.getElem_toArray, List.getElem_cons_zero, List.getElem_cons_succ, List.setIfInBounds_toArray, List.set_cons_zero, List.set_cons_succ]
      refine AnyU.take (i := 2) (v := ?_) rfl (by kernel_rfl) (by kernel_rfl) (by kernel_rfl) (fun _ _ _ h => h) (by kernel_rfl) (by assumption) (by rfl) ?_ (fun hV => ?_)
      rotate_left 1
      · (intro wq; go_simp; try with_reducible rfl)
      clear hU
      have hU := hV
      clear hV
      try simp only [Act.put, List.getElem_toArray, List.getElem_cons_zero, List.getElem_cons_succ, List.setIfInBounds_toArray, List.set_cons_zero, List.set_cons_succ]
      refine AnyU.take (i := 3) (v := ?_) rfl (by kernel_rfl) (by kernel_rfl) (by kernel_rfl) (fun _ _ _ h => h) (by kernel_rfl) (by assumption) (by rfl) ?_ (fun hV => ?_)
      rotate_left 1
      · (intro wq; go_simp; try with_reducible rfl)
      clear hU
      have hU := hV
      clear hV
      try simp only [Act.put, List.getElem_toArray, List.getElem_cons_zero, List.getElem_cons_succ, List.setIfInBounds_toArray, List.set_cons_zero, List.set_cons_succ]
      refine AnyU.take (i := 4) (v := ?_) rfl (by kernel_rfl) (by kernel_rfl) (by kernel_rfl) (fun _ _ _ h => h) (by kernel_rfl) (by assumption) (by rfl) ?_ (fun hV => ?_)
      rotate_left 1
      · (intro wq; go_simp; try with_reducible rfl)
      clear hU
      have hU := hV
      clear hV
      try simp only [Act.put, List.getElem_toArray, List.getElem_cons_zero, List.getElem_cons_succ, List.setIfInBounds_toArray, List.set_cons_zero, List.set_cons_succ]
      refine AnyU.take (i := 5) (v := ?_) rfl (by kernel_rfl) (by kernel_rfl) (by kernel_rfl) (fun _ _ _ h => h) (by kernel_rfl) (by assumption) (by rfl) ?_ (fun hV => ?_)
      rotate_left 1
      · (intro wq; go_simp; try with_reducible rfl)
      clear hU
      have hU := hV
      clear hV
      try simp only [Act.put, List.getElem_toArray, List.getElem_cons_zero, List.getElem_cons_succ, List.setIfInBounds_toArray, List.set_cons_zero, List.set_cons_succ]
      refine AnyU.take (i := 6) (v := ?_) rfl (by kernel_rfl) (by kernel_rfl) (by kernel_rfl) (fun _ _ _ h => h) (by kernel_rfl) (by assumption) (by rfl) ?_ (fun hV => ?_)
      rotate_left 1
      · (intro wq; go_simp; try with_reducible rfl)
      clear hU
      have hU := hV
      clear hV
      try simp only [Act.put, List.getElem_toArray, List.getElem_cons_zero, List.getElem_cons_succ, List.setIfInBounds_toArray, List.set_cons_zero, List.set_cons_succ]
      clear hw1 hjn hj1 hj10
      refine AnyU.loadc (i := 7) (d := 12) [11, 12] (Si := fun w' => Blk w' gl #[.int .i64 a1, .int .i64 a2, .int .i64 a3] 24 ∧ Blk w' gh #[.int .i64 c1, .int .i64 c2, .int .i64 c3] 24 ∧ w'.cell? ⟨b0, o0 + (j + 1) * 3 + 2, none⟩ = some (.string Y1)) (v := ?_) rfl (by kernel_rfl) (by kernel_rfl) (by kernel_rfl) (fun _ _ _ h => h) (by kernel_rfl) (by assumption) (by kernel_rfl) rfl (by simp) (by rfl) ?_ (fun hV => ?_)
      rotate_left 1
      · (intro wq hq; obtain ⟨-, -, u⟩ := hq; go_simp; try with_reducible rfl)
      clear hU
      have hU := hV
      clear hV
      try simp only [Act.put, List.getElem_toArray, List.getElem_cons_zero, List.getElem_cons_succ, List.setIfInBounds_toArray, List.set_cons_zero, List.set_cons_succ]
      refine AnyU.loadc (i := 8) (d := 12) [10, 11, 12] (Si := fun w' => Blk w' gl #[.int .i64 a1, .int .i64 a2, .int .i64 a3] 24 ∧ Blk w' gh #[.int .i64 c1, .int .i64 c2, .int .i64 c3] 24 ∧ w'.cell? ⟨b0, o0 + (j + 1) * 3 + 2, none⟩ = some (.string Y1)) (v := ?_) rfl (by kernel_rfl) (by kernel_rfl) (by kernel_rfl) (fun _ _ _ h => h) (by kernel_rfl) (by assumption) (by kernel_rfl) rfl (by simp) (by rfl) ?_ (fun hV => ?_)
      rotate_left 1
      · (intro wq hq; obtain ⟨u, -, -⟩ := hq; have u0 := u.cell 0; have u1 := u.cell 1; have u2 := u.cell 2; simp at u0 u1 u2; go_simp; try with_reducible rfl)
      clear hU
      have hU := hV
      clear hV
      try simp only [Act.put, List.getElem_toArray, List.getElem_cons_zero, List.getElem_cons_succ, List.setIfInBounds_toArray, List.set_cons_zero, List.set_cons_succ]
      refine AnyU.loadc (i := 9) (d := 12) [10, 11, 12] (Si := fun w' => Blk w' gl #[.int .i64 a1, .int .i64 a2, .int .i64 a3] 24 ∧ Blk w' gh #[.int .i64 c1, .int .i64 c2, .int .i64 c3] 24 ∧ w'.cell? ⟨b0, o0 + (j + 1) * 3 + 2, none⟩ = some (.string Y1)) (v := ?_) rfl (by kernel_rfl) (by kernel_rfl) (by kernel_rfl) (fun _ _ _ h => h) (by kernel_rfl) (by assumption) (by kernel_rfl) rfl (by simp) (by rfl) ?_ (fun hV => ?_)
      rotate_left 1
      · (intro wq hq; obtain ⟨-, u, -⟩ := hq; have u0 := u.cell 0; have u1 := u.cell 1; have u2 := u.cell 2; simp at u0 u1 u2; go_simp; try with_reducible rfl)
      clear hU
      have hU := hV
      clear hV
      try simp only [Act.put, List.getElem_toArray, List.getElem_cons_zero, List.getElem_cons_succ, List.setIfInBounds_toArray, List.set_cons_zero, List.set_cons_succ]
      refine AnyU.take (i := 10) (v := ?_) rfl (by kernel_rfl) (by kernel_rfl) (by kernel_rfl) (fun _ _ _ h => h) (by kernel_rfl) (by assumption) (by rfl) ?_ (fun hV => ?_)
      rotate_left 1
      · (intro wq; go_simp; try with_reducible rfl)
      clear hU
      have hU := hV
      clear hV
      try simp only [Act.put, List.getElem_toArray, List.getElem_cons_zero, List.getElem_cons_succ, List.setIfInBounds_toArray, List.set_cons_zero, List.set_cons_succ]
      refine AnyU.take (i := 11) (v := ?_) rfl (by kernel_rfl) (by kernel_rfl) (by kernel_rfl) (fun _ _ _ h => h) (by kernel_rfl) (by assumption) (by rfl) ?_ (fun hV => ?_)
      rotate_left 1
      · (intro wq; go_simp; try with_reducible rfl)
      clear hU
      have hU := hV
      clear hV
      try simp only [Act.put, List.getElem_toArray, List.getElem_cons_zero, List.getElem_cons_succ, List.setIfInBounds_toArray, List.set_cons_zero, List.set_cons_succ]
      refine AnyU.ready1 (i := 12) (by kernel_rfl) (AnyU.one rfl fun K hK => ?_)
      go_simp
      obtain ⟨hX, hbX, hsX⟩ := laidR wf #[.string Y1, .int .i64 a1, .int .i64 a2, .int .i64 a3, .int .i64 c1, .int .i64 c2, .int .i64 c3] 41
      generalize hX3 : ((wf.alloc (.cells #[.string Y1, .int .i64 a1, .int .i64 a2, .int .i64 a3, .int .i64 c1, .int .i64 c2, .int .i64 c3] 41)).drew) = X3 at hX hbX hsX ⊢
      clear hX3
      have S10 := Lib.hid (S8.out.quiet hX)
      refine hK.out _ _ (Until.cons (fun h => absurd h (by decide)) (Until.cons (fun _ => S10.out.man) Until.nil)) (fun hV => ?_)
      clear hK K
      clear hU
      have hU := hV
      clear hV
      try simp only [Act.put, List.getElem_toArray, List.getElem_cons_zero, List.getElem_cons_succ, List.setIfInBounds_toArray, List.set_cons_zero, List.set_cons_succ]
      refine AnyU.ready1 (i := 13) (by kernel_rfl) (AnyU.one rfl fun K hK => ?_)
      have hone7 : ∀ u ∈ (#[.string Y1, .int .i64 a1, .int .i64 a2, .int .i64 a3, .int .i64 c1, .int .i64 c2, .int .i64 c3] : Array Value).toList, u.oneCell' = true := by simp [Value.oneCell']
      have hk20 : k ≤ 20000 := by have := HMM.out; omega
      have hgX := S10.out.man.lt
      refine step_append_lies X3 (by rfl) _ _ _ (by rfl) (gm + 1) 41 i1 _ 7 64 Tryz.underlying25 ki kz0 kz1 kz2 rfl (by decide) sv k (depFlat (depsR k (xs.drop 8))) (by rfl) (by have h := S10.out.row; rw [depsR_len] at h; exact h) ⟨wf.heap.size, 0, none⟩ 1 1 (#[.string Y1, .int .i64 a1, .int .i64 a2, .int .i64 a3, .int .i64 c1, .int .i64 c2, .int .i64 c3] : Array Value).toList (by rfl) (by rfl) (World.news_of_block (cs := #[.string Y1, .int .i64 a1, .int .i64 a2, .int .i64 a3, .int .i64 c1, .int .i64 c2, .int .i64 c3]) (t := 41) (fr := (0, 0)) hbX) hone7 (by decide) (by unfold maxLen; omega) (by omega) (by omega) _ rfl ?_
      intro gS cS x4 hownS hgS hatS hltS
      have hsb : sv.ownBlock ≠ some gm := fun e => by have := owns_lt S10.out.row e; omega
      have hb4 := grownR hgS S10.out.man hsb
      have r4 := hb4.cell 4
      have rf4 := hb4.free 4
      have rl4 := hb4.lt
      simp [mCells] at r4
      refine hK.out _ _ (Until.off (by kernel_rfl)) (fun hV => ?_)
      clear hK K
      clear hU
      have hU := hV
      clear hV
      try simp only [Act.put, List.getElem_toArray, List.getElem_cons_zero, List.getElem_cons_succ, List.setIfInBounds_toArray, List.set_cons_zero, List.set_cons_succ]
      refine AnyU.take (i := 14) (v := ?_) rfl (by kernel_rfl) (by kernel_rfl) (by kernel_rfl) (fun _ _ _ h => h) (by kernel_rfl) (by assumption) (by rfl) ?_ (fun hV => ?_)
      rotate_left 1
      · (intro wq; go_simp; try with_reducible rfl)
      clear hU
      have hU := hV
      clear hV
      try simp only [Act.put, List.getElem_toArray, List.getElem_cons_zero, List.getElem_cons_succ, List.setIfInBounds_toArray, List.set_cons_zero, List.set_cons_succ]
      refine AnyU.ready1 (i := 15) (by kernel_rfl) (AnyU.one rfl fun K hK => ?_)
      go_simp
      refine hK.out _ _ (Until.off (by kernel_rfl)) (fun hV => ?_)
      clear hK K
      clear hU
      have hU := hV
      clear hV
      try simp only [Act.put, List.getElem_toArray, List.getElem_cons_zero, List.getElem_cons_succ, List.setIfInBounds_toArray, List.set_cons_zero, List.set_cons_succ]
      refine AnyU.done (by kernel_rfl) ?_
      clear hU
      have hpush := S8.out.push (d := (Y1, ((a1, a2, a3), (c1, c2, c3)))) hX (by rw [depsR_len]; exact hownS) hgS
      have eds : depsR k (xs.drop 8) ++ [(Y1, ((a1, a2, a3), (c1, c2, c3)))] = depsR (k + 1) (xs.drop 8) := by rw [depsR_snoc, HDP.out]
      rw [eds] at hpush
      have SP := Lib.hid hpush
      generalize (x4.setCell ⟨gm, 4, none⟩ (.slice (some ⟨gS, 0, none⟩) (k + 1) cS)) = Wz at SP ⊢
      clear hpush eds hownS hgS hatS hltS hsb hb4 r4 rf4 rl4 hX hbX hsX hone7
      go_wp2_with fail
      exact ⟨⟨k + 1, by omega, (by have := HJ.out; congr 1; omega), _, SP.out, HCK2.out⟩, by have := HJ.out; simp [intOf]; omega⟩
    · obtain rfl : k = M := by omega
      have hnI : ¬ (((8 + 13 * k : Nat) : Int) < (ts.length : Int)) := by have := HMM.out; omega
      obtain ⟨A, cap, rfl, hnc, hcm, hdp, -⟩ := deps_own S4.out.row
      have HD := Lib.hid hdp
      have hlen := depsR_len (xs.drop 8) k
      have htx8 := depsR_size (B := 20000) (u := xs.drop 8) (fun t ht => HTX.out t (List.mem_of_mem_drop ht)) k
      have hX1 : X1.size ≤ 20000 := by rw [← E1.out, HXS.out]; exact getB_size HTX.out 1
      obtain ⟨ds, hds⟩ : ∃ ds, depsR k (xs.drop 8) = ds := ⟨_, rfl⟩
      rw [hds] at S4 HD hlen htx8
      have hk20 : k ≤ 20000 := by have := HMM.out; omega
      have C := fun w h => refManMay_c X1 v1 v2 v3 A cap ds w h (by unfold maxLen; omega) (by unfold maxLen; omega) (fun d hd => Nat.le_trans (htx8 d hd) (by unfold maxLen; omega))
      obtain ⟨may, hmay⟩ : ∃ x, mayM X1 (v1, v2, v3) ds = x := ⟨_, rfl⟩
      simp only [hmay, manV] at C
      have HMC := Lib.hid C
      have hres : ∀ q, refM (ts.map Tok.text) = q ↔ (if ok = true ∧ may = true then some (X1, (v1, v2, v3), ds) else none) = q := by
        intro q
        have h8 : 8 ≤ xs.length := by have := HXL.out; omega
        have hmod : (xs.length - 8) % 13 = 0 := by have := HXL.out; have := HMOD.out; omega
        rw [HXS.out, refM, HMD.out, HV.out.1, HV.out.2.1, hds]
        have g1 : getB xs 1 = X1 := by rw [← HXS.out]; exact E1.out
        have g0 : getB xs 0 = kPkg := by rw [← HXS.out, ← HX.out.1]; exact E0.out
        have g2 : getB xs 2 = kVer := by rw [← HXS.out, ← HX.out.2]; exact E2.out
        rw [g1, hmay, HV.out.2.2]
        by_cases hc : ok = true ∧ may = true
        · rw [if_pos hc, if_pos ⟨⟨h8, hmod, g0, g2⟩, HCK.out, hc.1, hc.2⟩]
        · rw [if_neg hc, if_neg fun h => hc ⟨h.2.2.1, h.2.2.2⟩]
      have HR := Lib.hid hres
      clear hres hmay C hdp hds htx8 hlen hX1 hq0 hq2
      obtain ⟨n0, n1, n2, n3, n4⟩ := cells5 S4.out.man
      have ln := S4.out.man.lt
      have hnz : ∀ b o, A = some ⟨b, o, none⟩ → b ≠ w.heap.size := by
        intro b o e
        have h := S4.out.row
        have hw := S4.out.wg
        subst e
        have := owns_lt h (g := b) (by simp [Value.ownBlock])
        omega
      cases ok
      · go_wp2_with (go_at_call 21; refine (HMC.out _ HD.out).mono ?_; rintro e wb ⟨rfl, hb⟩; have S5 := Lib.hid (S4.out.quiet hb); have HD5 := Lib.hid (HD.out.under hb (Nat.le_refl _)); clear hb n0 n1 n2 n3 n4 ln; obtain ⟨n0, n1, n2, n3, n4⟩ := cells5 S5.out.man; have ln := S5.out.man.lt; obtain ⟨k0, k1, k2, k3, k4⟩ := cells5 S5.out.zero; have f0 := S5.out.zero.free 0; have f1 := S5.out.zero.free 1; have f2 := S5.out.zero.free 2; have f3 := S5.out.zero.free 3; have f4 := S5.out.zero.free 4; have lz := S5.out.zero.lt)
        have hp := put5_full (.string { data := #[] }) (.int .i64 0) (.int .i64 0) (.int .i64 0) (.slice none 0 0) S5.out.zero
        have hbp := put5_bel (.string { data := #[] }) (.int .i64 0) (.int .i64 0) (.int .i64 0) (.slice none 0 0) S5.out.below (Nat.le_refl _)
        generalize (((((wb.setCell ⟨w.heap.size, 0, none⟩ (.string { data := #[] })).setCell ⟨w.heap.size, 1, none⟩ (.int .i64 0)).setCell ⟨w.heap.size, 2, none⟩ (.int .i64 0)).setCell ⟨w.heap.size, 3, none⟩ (.int .i64 0)).setCell ⟨w.heap.size, 4, none⟩ (.slice none 0 0)) = Wz at hp hbp ⊢
        obtain ⟨r0, r1, r2, r3, r4⟩ := cells5 hp
        refine bodyPost_ret (by simp [results, Tryz.results7, go_sem, r0, r1, r2, r3, r4]; try rfl) rfl ?_
        exact ⟨hbp, .inr (.inl ⟨ts, HSC.out, (HR.out none).2 (by rw [if_neg (by simp)]), rfl⟩)⟩
      · cases may
        · go_wp2_with (go_at_call 21; refine (HMC.out _ HD.out).mono ?_; rintro e wb ⟨rfl, hb⟩; have S5 := Lib.hid (S4.out.quiet hb); have HD5 := Lib.hid (HD.out.under hb (Nat.le_refl _)); clear hb n0 n1 n2 n3 n4 ln; obtain ⟨n0, n1, n2, n3, n4⟩ := cells5 S5.out.man; have ln := S5.out.man.lt; obtain ⟨k0, k1, k2, k3, k4⟩ := cells5 S5.out.zero; have f0 := S5.out.zero.free 0; have f1 := S5.out.zero.free 1; have f2 := S5.out.zero.free 2; have f3 := S5.out.zero.free 3; have f4 := S5.out.zero.free 4; have lz := S5.out.zero.lt)
          have hp := put5_full (.string { data := #[] }) (.int .i64 0) (.int .i64 0) (.int .i64 0) (.slice none 0 0) S5.out.zero
          have hbp := put5_bel (.string { data := #[] }) (.int .i64 0) (.int .i64 0) (.int .i64 0) (.slice none 0 0) S5.out.below (Nat.le_refl _)
          generalize (((((wb.setCell ⟨w.heap.size, 0, none⟩ (.string { data := #[] })).setCell ⟨w.heap.size, 1, none⟩ (.int .i64 0)).setCell ⟨w.heap.size, 2, none⟩ (.int .i64 0)).setCell ⟨w.heap.size, 3, none⟩ (.int .i64 0)).setCell ⟨w.heap.size, 4, none⟩ (.slice none 0 0)) = Wz at hp hbp ⊢
          obtain ⟨r0, r1, r2, r3, r4⟩ := cells5 hp
          refine bodyPost_ret (by simp [results, Tryz.results7, go_sem, r0, r1, r2, r3, r4]; try rfl) rfl ?_
          exact ⟨hbp, .inr (.inl ⟨ts, HSC.out, (HR.out none).2 (by rw [if_neg (by simp)]), rfl⟩)⟩
        · go_wp2_with (go_at_call 21; refine (HMC.out _ HD.out).mono ?_; rintro e wb ⟨rfl, hb⟩; have S5 := Lib.hid (S4.out.quiet hb); have HD5 := Lib.hid (HD.out.under hb (Nat.le_refl _)); clear hb n0 n1 n2 n3 n4 ln; obtain ⟨n0, n1, n2, n3, n4⟩ := cells5 S5.out.man; have ln := S5.out.man.lt; obtain ⟨k0, k1, k2, k3, k4⟩ := cells5 S5.out.zero; have f0 := S5.out.zero.free 0; have f1 := S5.out.zero.free 1; have f2 := S5.out.zero.free 2; have f3 := S5.out.zero.free 3; have f4 := S5.out.zero.free 4; have lz := S5.out.zero.lt)
          have hp := put5_full (.string X1) (.int .i64 v1) (.int .i64 v2) (.int .i64 v3) (.slice A ds.length cap) S5.out.zero
          have hbp := put5_bel (.string X1) (.int .i64 v1) (.int .i64 v2) (.int .i64 v3) (.slice A ds.length cap) S5.out.below (Nat.le_refl _)
          have hdk := HD5.out.keep (w' := ((((wb.setCell ⟨w.heap.size, 0, none⟩ (.string X1)).setCell ⟨w.heap.size, 1, none⟩ (.int .i64 v1)).setCell ⟨w.heap.size, 2, none⟩ (.int .i64 v2)).setCell ⟨w.heap.size, 3, none⟩ (.int .i64 v3)).setCell ⟨w.heap.size, 4, none⟩ (.slice A ds.length cap)) (fun b o e => put5_heap (.string X1) (.int .i64 v1) (.int .i64 v2) (.int .i64 v3) (.slice A ds.length cap) (fun h => hnz b o e h))
          generalize (((((wb.setCell ⟨w.heap.size, 0, none⟩ (.string X1)).setCell ⟨w.heap.size, 1, none⟩ (.int .i64 v1)).setCell ⟨w.heap.size, 2, none⟩ (.int .i64 v2)).setCell ⟨w.heap.size, 3, none⟩ (.int .i64 v3)).setCell ⟨w.heap.size, 4, none⟩ (.slice A ds.length cap)) = Wz at hp hbp hdk ⊢
          obtain ⟨r0, r1, r2, r3, r4⟩ := cells5 hp
          refine bodyPost_ret (by simp [results, Tryz.results7, go_sem, r0, r1, r2, r3, r4]; try rfl) rfl ?_
          exact ⟨hbp, .inr (.inr ⟨ts, X1, (v1, v2, v3), ds, A, cap, HSC.out, (HR.out _).2 (by rw [if_pos (by simp)]), rfl, hdk⟩)⟩
end Go.Proofs.YtlpgkldialmofaaGreatDoor

