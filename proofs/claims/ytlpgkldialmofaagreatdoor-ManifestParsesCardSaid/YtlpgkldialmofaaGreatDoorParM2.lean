/- manifest.Parse at a text that is not too long. -/
import Derived.Test.YtlpgkldialmofaaGreatDoorParSt
namespace Go.Proofs.YtlpgkldialmofaaGreatDoor
open Go.RowKit
set_option linter.unusedSimpArgs false
set_option linter.unusedVariables false
theorem info_strM : ((Tryz.prog).info? 9).map (fun i => (i.zero, i.size, i.bytes)) = some (some (.string { data := #[] }), 1, 16) := by kernel_rfl
theorem nextF_size {B : Nat} (p : ByteArray → Bool) (ts : List ByteArray) (h : ∀ t ∈ ts, t.size ≤ B) : (nextF p ts).1.1.size ≤ B := by
  cases ts with
  | nil => exact Nat.zero_le _
  | cons t r =>
    rw [nextF]
    split
    · exact h t (by simp)
    · exact Nat.zero_le _
theorem deps_get : ∀ (ds : List Dp) (i : Nat) (h : i < ds.length) (j : Nat), j < 7 → (depFlat ds)[i * 7 + j]? = (depV ds[i].1 ds[i].2)[j]?
  | [], i, h, _, _ => by simp at h
  | d :: ds, 0, _, j, hj => by
    simp only [depFlat, List.flatMap_cons, Nat.zero_mul, Nat.zero_add, List.getElem_cons_zero]
    rw [List.getElem?_append_left (by simpa [depV] using hj)]
    simp
  | d :: ds, i + 1, h, j, hj => by
    have h' : i < ds.length := by simpa using h
    have ih := deps_get ds i h' j hj
    simp only [depFlat, List.flatMap_cons, List.getElem_cons_succ] at ih ⊢
    rw [List.getElem?_append_right (by simp [depV]; omega), ← ih]
    congr 1
    simp [depV]; omega
theorem deps_own {w : World} {base : Nat} {v : Value} {ds : List Dp} (h : w.ownsRow base 41 7 v ds.length (depFlat ds)) : ∃ A cap, v = .slice A ds.length cap ∧ ds.length ≤ cap ∧ cap ≤ maxLen ∧ DepsAt w A ds ∧ ((A = none ∧ cap = 0) ∨ ∃ b, A = some ⟨b, 0, none⟩) := by
  obtain ⟨-, ⟨rfl, hn⟩ | ⟨g, cap, cur, rfl, hb, hh, hnc, hcm, hsz, htk⟩⟩ := h
  · exact ⟨none, 0, by rw [hn], by omega, Nat.zero_le _, .inl (List.eq_nil_of_length_eq_zero hn), .inl ⟨rfl, rfl⟩⟩
  · refine ⟨_, cap, rfl, hnc, hcm, .inr ⟨g, 0, rfl, (Array.getElem?_eq_some_iff.1 hh).1, fun i hi j hj => ?_⟩, .inr ⟨g, rfl⟩⟩
    rw [← deps_get ds i hi j hj, ← htk, List.getElem?_take, if_pos (by omega)]
    simp [World.cell?, hh]
set_option maxHeartbeats 4000000 in
theorem clip_c (A : Option Addr) (n cap : Nat) (w : World) (h1 : n ≤ cap) (h2 : cap ≤ maxLen) (h3 : (A = none ∧ cap = 0) ∨ ∃ b, A = some ⟨b, 0, none⟩) : Calls Tryz.prog 17 #[.slice A n cap] w fun e w' => e = .returned (.slice A n n) ∧ w' = w := by
  go_enter Tryz.func17, Tryz.ntmps17
  have hm : (9223372036854775807 : Int) ≥ (cap : Int) := by unfold maxLen at h2; omega
  rcases h3 with ⟨rfl, rfl⟩ | ⟨b, rfl⟩
  · obtain rfl : n = 0 := by omega
    go_wp2_with fail
    exact bodyPost_ret (by simp [results, Tryz.results17, go_sem]; try rfl) rfl ⟨rfl, rfl⟩
  · go_wp2_with fail
    exact bodyPost_ret (by simp [results, Tryz.results17, go_sem]; try rfl) rfl ⟨rfl, rfl⟩
theorem DepsAt.keep {w w' : World} {A : Option Addr} {ds : List Dp} (h : DepsAt w A ds) (hk : ∀ b o, A = some ⟨b, o, none⟩ → w'.heap[b]? = w.heap[b]?) : DepsAt w' A ds := by
  rcases h with h | ⟨b, o, e, hl, hc⟩
  · exact .inl h
  · refine .inr ⟨b, o, e, ?_, fun i hi j hj => ?_⟩
    · have := hk b o e
      rw [Array.getElem?_eq_getElem hl] at this
      exact (Array.getElem?_eq_some_iff.1 this).1
    · have := hc i hi j hj
      unfold World.cell? at this ⊢
      simp only at this ⊢
      rw [hk b o e]
      exact this
theorem put5_heap {w : World} {g b : Nat} (v0 v1 v2 v3 v4 : Value) (h : b ≠ g) : (((((w.setCell ⟨g, 0, none⟩ v0).setCell ⟨g, 1, none⟩ v1).setCell ⟨g, 2, none⟩ v2).setCell ⟨g, 3, none⟩ v3).setCell ⟨g, 4, none⟩ v4).heap[b]? = w.heap[b]? := by
  rw [Below.heap_setCell _ ⟨g, 4, none⟩ v4 b (by simpa using h), Below.heap_setCell _ ⟨g, 3, none⟩ v3 b (by simpa using h), Below.heap_setCell _ ⟨g, 2, none⟩ v2 b (by simpa using h), Below.heap_setCell _ ⟨g, 1, none⟩ v1 b (by simpa using h), Below.heap_setCell _ ⟨g, 0, none⟩ v0 b (by simpa using h)]
theorem info_depM : ((Tryz.prog).info? 41).map (fun i => (i.zero, i.size, i.bytes)) = some (some (.agg #[.string { data := #[] }, .int .i64 0, .int .i64 0, .int .i64 0, .int .i64 0, .int .i64 0, .int .i64 0]), 7, 64) := by kernel_rfl
/-- what the first loop holds: the texts of the first k tokens, in a row behind block g's cell -/
structure TxtRel (W wr : World) (e0 g : Nat) (xs : List ByteArray) (k : Nat) : Prop where
  below : Below W.heap.size W wr
  cell : ∃ sv, Blk wr g #[sv] 46 ∧ wr.ownsRow e0 9 1 sv k ((xs.take k).map Value.string)
theorem owns_words {w : World} {e0 g N : Nat} {sv : Value} {xs : List ByteArray} (hb : Blk w g #[sv] 46) (h : w.ownsRow e0 9 1 sv xs.length (xs.map Value.string)) (hN : w.heap.size ≤ N) : WordsAt w g N xs := by
  obtain ⟨-, ⟨rfl, hn⟩ | ⟨b, cap, cur, rfl, hb2, hh, hnc, hcm, hsz, htk⟩⟩ := h
  · obtain rfl := List.eq_nil_of_length_eq_zero hn
    exact ⟨none, 0, hb, Nat.le_refl _, by simp [maxLen], .inl rfl⟩
  · refine ⟨_, cap, hb, hnc, hcm, ?_⟩
    by_cases hx : xs = []
    · exact .inl hx
    refine .inr ⟨b, 0, rfl, ⟨?_, ?_⟩, fun i hi => ?_⟩
    · rintro rfl
      rw [show w.heap[b]? = some (.cells #[_] 46 (0, 0)) from hb] at hh
      injection hh with hh
      injection hh with h1 h2
      exact absurd h2 (by decide)
    · exact Nat.lt_of_lt_of_le (Array.getElem?_eq_some_iff.1 hh).1 hN
    · have : (xs.map Value.string)[i]? = some (.string xs[i]) := by rw [List.getElem?_map, List.getElem?_eq_getElem hi]; rfl
      rw [← this, ← htk, List.getElem?_take, if_pos (by omega)]
      simp [World.cell?, hh]
theorem own_ne_words {w : World} {e0 g n : Nat} {sv x : Value} {xs : List Value} (hb : Blk w g #[x] 46) (h : w.ownsRow e0 9 1 sv n xs) : sv.ownBlock ≠ some g := by
  intro e
  obtain ⟨-, ⟨rfl, -⟩ | ⟨b, cap, cur, rfl, -, hh, -⟩⟩ := h
  · simp [Value.ownBlock] at e
  · simp [Value.ownBlock] at e
    subst e
    rw [show w.heap[b]? = some (.cells #[x] 46 (0, 0)) from hb] at hh
    injection hh with hh
    injection hh with h1 h2
    exact absurd h2 (by decide)
theorem put5_full {w : World} {g : Nat} {T : TypeId} {a0 a1 a2 a3 a4 : Value} (v0 v1 v2 v3 v4 : Value) (h : Blk w g #[a0, a1, a2, a3, a4] T) :
    Blk (((((w.setCell ⟨g, 0, none⟩ v0).setCell ⟨g, 1, none⟩ v1).setCell ⟨g, 2, none⟩ v2).setCell ⟨g, 3, none⟩ v3).setCell ⟨g, 4, none⟩ v4) g #[v0, v1, v2, v3, v4] T := by
  have := ((((h.set 0 v0).set 1 v1).set 2 v2).set 3 v3).set 4 v4
  simpa using this
theorem put5_bel {w w1 : World} {B g : Nat} (v0 v1 v2 v3 v4 : Value) (h : Below B w w1) (hg : B ≤ g) : Below B w (((((w1.setCell ⟨g, 0, none⟩ v0).setCell ⟨g, 1, none⟩ v1).setCell ⟨g, 2, none⟩ v2).setCell ⟨g, 3, none⟩ v3).setCell ⟨g, 4, none⟩ v4) :=
  ((((h.setCell (p := ⟨g, 0, none⟩) hg v0).setCell (p := ⟨g, 1, none⟩) hg v1).setCell (p := ⟨g, 2, none⟩) hg v2).setCell (p := ⟨g, 3, none⟩) hg v3).setCell (p := ⟨g, 4, none⟩) hg v4
theorem put5_far {w : World} {g b : Nat} {C : Array Value} {T : TypeId} (v0 v1 v2 v3 v4 : Value) (h : Blk w b C T) (hg : b ≠ g) : Blk (((((w.setCell ⟨g, 0, none⟩ v0).setCell ⟨g, 1, none⟩ v1).setCell ⟨g, 2, none⟩ v2).setCell ⟨g, 3, none⟩ v3).setCell ⟨g, 4, none⟩ v4) b C T :=
  ((((h.far ⟨g, 0, none⟩ v0 hg).far ⟨g, 1, none⟩ v1 hg).far ⟨g, 2, none⟩ v2 hg).far ⟨g, 3, none⟩ v3 hg).far ⟨g, 4, none⟩ v4 hg
def manZ : Array Value := #[.string { data := #[] }, .int .i64 0, .int .i64 0, .int .i64 0, .slice none 0 0]
/-- what manifest.Parse answers -/
def ManAns (s : ByteArray) (w : World) (e : Ending) (w' : World) : Prop :=
  Below w.heap.size w w' ∧ ((∃ ts k b, scanAll s = (ts, some k) ∧ e = .returned (.tuple #[.agg manZ, .iface 69 (.pointer (some ⟨b, 0, none⟩))]) ∧ w.heap.size ≤ b ∧ Blk w' b #[.int .i64 (k : Nat), .iface 32 (.int .i64 2)] 71) ∨
    (∃ ts, scanAll s = (ts, none) ∧ manF (ts.map Tok.text) = none ∧ e = .returned (.tuple #[.agg manZ, .iface 32 (.int .i64 2)])) ∨
    (∃ ts p v ds A cap, scanAll s = (ts, none) ∧ manF (ts.map Tok.text) = some (p, v, ds) ∧ e = .returned (.tuple #[.agg (manV p v.1 v.2.1 v.2.2 A ds.length cap), .nilIface]) ∧ DepsAt w' A ds))
set_option maxRecDepth 100000 in
set_option maxHeartbeats 40000000 in
theorem manParse_c (s : ByteArray) (w : World) (hs : s.size ≤ 20000) (hm : MaxW w) : Calls Tryz.prog 5 #[.string s] w (ManAns s w) := by
  obtain ⟨i0, hi, hz0, hz1, hz2⟩ := info_parts info_strM
  obtain ⟨i1, ki, kz0, kz1, kz2⟩ := info_parts info_depM
  have HM := Lib.hid hm
  clear hm
  go_enter Tryz.func5, Tryz.ntmps5
  go_upto_region 1 with fail
  have x0 := Blk.new w #[.string { data := #[] }, .int .i64 0, .int .i64 0, .int .i64 0, .slice none 0 0] 27
  have xb := (Below.refl w.heap.size w).alloc (Nat.le_refl _) (.cells #[.string { data := #[] }, .int .i64 0, .int .i64 0, .int .i64 0, .slice none 0 0] 27)
  generalize (w.alloc (.cells #[.string { data := #[] }, .int .i64 0, .int .i64 0, .int .i64 0, .slice none 0 0] 27)) = W at x0 xb ⊢
  have BZ := Lib.hid x0
  have A0 := Lib.hid xb
  have HM0 := Lib.hid (HM.out.below xb)
  clear x0 xb
  go_wp2_with fail
  refine (tokens_c s W hs).mono ?_
  rintro e w1 ⟨hb1, hans⟩
  have BZ1 := Lib.hid (BZ.out.under hb1 BZ.out.lt)
  have A1 := Lib.hid (acc0 A0.out A0.out.size hb1)
  have HM1 := Lib.hid (HM0.out.below hb1)
  have hW1 := hb1.size
  clear hb1
  rcases hans with ⟨ts, sv, hsc, hlen, rfl, hrow⟩ | ⟨ts, k, b, hsc, hk, rfl, hbb, hblk⟩
  rotate_left
  · obtain ⟨k0, k1, k2, k3, k4⟩ := cells5 BZ1.out
    have f0 := BZ1.out.free 0
    have f1 := BZ1.out.free 1
    have f2 := BZ1.out.free 2
    have f3 := BZ1.out.free 3
    have f4 := BZ1.out.free 4
    have lz := BZ1.out.lt
    have HBK := Lib.hid hblk
    have hwb : w.heap.size < b := Nat.lt_of_lt_of_le BZ.out.lt hbb
    have HSC := Lib.hid hsc
    clear hblk hsc hbb
    go_wp2_with fail
    have hp := put5_full (.string { data := #[] }) (.int .i64 0) (.int .i64 0) (.int .i64 0) (.slice none 0 0) BZ1.out
    have hbp := put5_bel (.string { data := #[] }) (.int .i64 0) (.int .i64 0) (.int .i64 0) (.slice none 0 0) A1.out (Nat.le_refl _)
    have hbk := put5_far (.string { data := #[] }) (.int .i64 0) (.int .i64 0) (.int .i64 0) (.slice none 0 0) HBK.out (show b ≠ w.heap.size by omega)
    generalize (((((w1.setCell ⟨w.heap.size, 0, none⟩ (.string { data := #[] })).setCell ⟨w.heap.size, 1, none⟩ (.int .i64 0)).setCell ⟨w.heap.size, 2, none⟩ (.int .i64 0)).setCell ⟨w.heap.size, 3, none⟩ (.int .i64 0)).setCell ⟨w.heap.size, 4, none⟩ (.slice none 0 0)) = Wz at hp hbp hbk ⊢
    obtain ⟨r0, r1, r2, r3, r4⟩ := cells5 hp
    refine bodyPost_ret (by simp [results, Tryz.results5, go_sem, r0, r1, r2, r3, r4]; try rfl) rfl ?_
    exact ⟨hbp, .inl ⟨ts, k, b, HSC.out, rfl, by omega, hbk⟩⟩
  have hT := TokAt.own hrow
  obtain ⟨p, cap, rfl, hc⟩ := hT
  have HC := Lib.hid hc
  have HSC := Lib.hid hsc
  clear hrow hc hsc
  go_upto_region 5 with fail
  have y0 := (Blk.new (w1.alloc (.cells #[] 9)) #[.slice (some ⟨w1.heap.size, 0, none⟩) 0 0] 46)
  have hz1' : (w1.alloc (.cells #[] 9)).heap.size = w1.heap.size + 1 := by simp
  rw [hz1'] at y0
  have ye : ((w1.alloc (.cells #[] 9)).alloc (.cells #[.slice (some ⟨w1.heap.size, 0, none⟩) 0 0] 46)).heap[w1.heap.size]? = some (.cells #[] 9 (0, 0)) := (heap_alloc_old _ _ (by simp)).trans (heap_alloc_new _ _)
  have yb := ((Below.refl w1.heap.size w1).alloc (Nat.le_refl _) (.cells #[] 9)).alloc (by simp) (.cells #[.slice (some ⟨w1.heap.size, 0, none⟩) 0 0] 46)
  generalize ((w1.alloc (.cells #[] 9)).alloc (.cells #[.slice (some ⟨w1.heap.size, 0, none⟩) 0 0] 46)) = W2 at y0 ye yb ⊢
  obtain ⟨g, hg⟩ : ∃ g, w1.heap.size + 1 = g := ⟨_, rfl⟩
  rw [hg] at y0 ⊢
  have hrow0 : W2.ownsRow w1.heap.size 9 1 (.slice (some ⟨w1.heap.size, 0, none⟩) 0 0) 0 [] := by
    refine ⟨rfl, .inr ⟨w1.heap.size, 0, #[], rfl, Nat.le_refl _, ye, Nat.le_refl _, by unfold maxLen; omega, rfl, rfl⟩⟩
  have HR0 := Lib.hid (show TxtRel w1 W2 w1.heap.size g (ts.map Tok.text) 0 from ⟨yb, _, y0, by rw [List.take_zero]; exact hrow0⟩)
  clear y0 ye yb hrow0 hz1'
  go_wp2_with fail
  go_loopw [27] (fun iv wr => ∃ k : Nat, iv = .int .i64 k ∧ k ≤ ts.length ∧ TxtRel w1 wr w1.heap.size g (ts.map Tok.text) k) (fun iv _ => ts.length - (intOf iv).toNat)
  case atStart => exact ⟨0, rfl, Nat.zero_le _, HR0.out⟩
  case round =>
    obtain ⟨k, rfl, hk, hrel⟩ := hrel
    have HRL := Lib.hid hrel
    have hbl := hrel.below
    obtain ⟨sw, hcell, hrow⟩ := hrel.cell
    clear hrel
    by_cases hlt : k < ts.length
    · have hltI : (k : Int) < (ts.length : Int) := by omega
      obtain ⟨b, o, rfl, hc⟩ := HC.out (by omega)
      obtain ⟨d0, d1, d2⟩ := hc k hlt
      have hbw := World.block_lt_of_cell? w1 _ d2
      simp only at hbw
      rw [← hbl.cell (p := ⟨b, _, none⟩) hbw] at d0 d1 d2
      have hbr : b < wr.heap.size := Nat.lt_of_lt_of_le hbw hbl.size
      obtain ⟨X, hX⟩ : ∃ X, ts[k].text = X := ⟨_, rfl⟩
      have hxk : (ts.map Tok.text)[k]? = some X := by rw [List.getElem?_map, List.getElem?_eq_getElem hlt, ← hX]; rfl
      rw [hX] at d2
      obtain ⟨kd, hkd⟩ : ∃ x, ts[k].kind = x := ⟨_, rfl⟩
      obtain ⟨ka, hka⟩ : ∃ x, ts[k].at_ = x := ⟨_, rfl⟩
      rw [hkd] at d0
      rw [hka] at d1
      have k0 := hcell.cell 0
      simp at k0
      have HCL := Lib.hid hcell
      have HRW := Lib.hid hrow
      have HBL := Lib.hid hbl
      have HXK := Lib.hid hxk
      have hgr := hcell.lt
      clear hc hcell hrow hbl hxk hX hkd hka
      go_wp2_with (at_builtin; refine wpList_append_own _ rfl _ _ 46 rfl w1.heap.size 9 i0 (.string { data := #[] }) 1 16 Tryz.underlying46 hi hz0 hz1 hz2 rfl (by decide) _ k _ rfl (owns_under HRW.out (((Below.refl _ _).alloc (Nat.le_refl _) (.cells #[.int .i64 (kd : Nat), .int .i64 (ka : Nat), .string X] 48)).alloc (by simp) _)) _ 1 1 [.string X] rfl ?qc1 ?qc2 ?qc3 ?qc4 ?qc5 ?qc6 ?_)
      case qc1 => simp
      case qc2 =>
        intro j u hj
        have hj0 : j = 0 := by cases j with | zero => rfl | succ j => simp at hj
        subst hj0
        simp at hj
        subst hj
        rw [addN]
        simp
      case qc3 => intro u hu; simp at hu; subst hu; rfl
      case qc4 => unfold maxLen; omega
      case qc5 => omega
      case qc6 => simp; omega
      intro v' w3 hown hgrow hnil
      have hb2 := ((Below.refl wr.heap.size wr).alloc (Nat.le_refl _) (.cells #[.int .i64 (kd : Nat), .int .i64 (ka : Nat), .string X] 48)).alloc (by simp) (.cells #[.string X] 9)
      have hcl2 := (HCL.out.alloc (.cells #[.int .i64 (kd : Nat), .int .i64 (ka : Nat), .string X] 48)).alloc (.cells #[.string X] 9)
      have hown2 := own_ne_words HCL.out HRW.out
      have hcl3 : Blk w3 g #[sw] 46 := (hgrow.block g hcl2.lt (fun e => hown2 e.symm)).trans hcl2
      have hbel : Below w1.heap.size w1 w3 := (HBL.out.trans (hb2.mono HBL.out.size)).grown hgrow (by have := HBL.out.size; simp; omega) (owns_base HRW.out)
      have q0 := hcl3.cell 0
      simp at q0
      have qf := hcl3.free 0
      have hg3 := hcl3.lt
      have hne3 := own_ne_words hcl3 hown
      have hrel3 : TxtRel w1 (w3.setCell ⟨g, 0, none⟩ v') w1.heap.size g (ts.map Tok.text) (k + 1) := by
        refine ⟨hbel.setCell (p := ⟨g, 0, none⟩) (by simp only; omega) _, v', ?_, ?_⟩
        · have := hcl3.set 0 v'
          simpa using this
        · have e : ((ts.map Tok.text).take (k + 1)).map Value.string = ((ts.map Tok.text).take k).map Value.string ++ [.string X] := by
            rw [List.take_add_one, HXK.out, List.map_append]; rfl
          have eL : ((ts.map Tok.text).take k).map Value.string = List.take k (List.map (Value.string ∘ Tok.text) ts) := by rw [List.map_take, List.map_map]
          rw [e, eL]
          refine owns_keep hown fun b' hb' => Below.heap_setCell w3 ⟨g, 0, none⟩ v' b' (fun e => hne3 (by rw [hb']; simp only at e; rw [e]))
      have HR3 := Lib.hid hrel3
      obtain ⟨gv, cv, rfl⟩ : ∃ gv cv, v' = .slice (some ⟨gv, 0, none⟩) (k + 1) cv := by
        obtain ⟨-, ⟨rfl, h0⟩ | ⟨gv, cv, cur, rfl, -⟩⟩ := hown
        · omega
        · exact ⟨gv, cv, rfl⟩
      clear hb2 hcl2 hown2 hcl3 hbel hne3 hrel3 hown hgrow hnil k0
      go_wp2_with fail
      exact ⟨⟨k + 1, by go_num, by omega, HR3.out⟩, by simp [intOf]; omega⟩
    · obtain rfl : k = ts.length := by omega
      have hltI : ¬ (ts.length : Int) < (ts.length : Int) := by omega
      have e : (ts.map Tok.text).take ts.length = ts.map Tok.text := by rw [List.take_of_length_le (by simp)]
      rw [e] at hrow
      have HWD := Lib.hid (owns_words (N := wr.heap.size) hcell (by rw [List.length_map]; exact hrow) (Nat.le_refl _))
      have hgm : g < wr.heap.size := hcell.lt
      have hwg : w.heap.size < g := by have := BZ1.out.lt; omega
      clear hcell hrow e
      obtain ⟨xs, hxs⟩ : ∃ xs, ts.map Tok.text = xs := ⟨_, rfl⟩
      have htx := texts_le HSC.out
      have hxl : xs.length ≤ 20000 := by rw [← hxs, List.length_map]; omega
      rw [hxs] at htx HWD
      have htx2 : ∀ t ∈ xs, t.size ≤ 20000 := fun t ht => Nat.le_trans (htx t ht) hs
      have hcl := catL_le xs htx2
      have hcl2 : (catL xs).length ≤ 400000000 := Nat.le_trans hcl (Nat.le_trans (Nat.mul_le_mul_right _ hxl) (by decide))
      have hst : ParSt w g wr.heap.size wr.heap.size (wr.alloc (.cells #[.string { data := #[] }, .int .i64 0, .int .i64 0, .int .i64 0, .slice none 0 0] 27)) xs { data := #[] } 0 0 0 (.slice none 0 0) [] := by
        have hbA : Below wr.heap.size wr (wr.alloc (.cells #[.string { data := #[] }, .int .i64 0, .int .i64 0, .int .i64 0, .slice none 0 0] 27)) := (Below.refl _ _).alloc (Nat.le_refl _) _
        exact { below := acc0 (acc0 A1.out A1.out.size HRL.out.below) (by have := A1.out.size; have := HRL.out.below.size; omega) hbA, max := (HM1.out.below HRL.out.below).below hbA, zero := (BZ1.out.under HRL.out.below BZ1.out.lt).under hbA (by have := BZ1.out.lt; have := HRL.out.below.size; omega), man := Blk.new _ _ _, words := HWD.out.of hbA, row := World.ownsRow_nil _ _ _ _, wg := hwg, ggm := hgm, nm := Nat.le_refl _ }
      have S0 := Lib.hid hst
      have HTX := Lib.hid htx2
      have HXS := Lib.hid hxs
      clear hst HWD htx htx2 hcl hxs HRL HR0
      go_upto_region 11 with fail
      generalize (wr.alloc (.cells #[.string { data := #[] }, .int .i64 0, .int .i64 0, .int .i64 0, .slice none 0 0] 27)) = wa at S0 ⊢
      generalize wr.heap.size = gm at S0 hgm ⊢
      have hml : (20000 : Nat) ≤ maxLen := by unfold maxLen; omega
      have K1 := fun w h hg => key_c kPkg g gm xs w h hg
      obtain ⟨f1, hf1⟩ : ∃ x, (nextF (keyP kPkg) xs).1.2 = x := ⟨_, rfl⟩
      obtain ⟨r1, hr1⟩ : ∃ x, (nextF (keyP kPkg) xs).2 = x := ⟨_, rfl⟩
      have hn1 := nextF_len (keyP kPkg) xs
      rw [hr1] at hn1
      simp only [hf1, hr1] at K1
      have HK1 := Lib.hid K1
      have K2 := fun w h => nextSmall_c g gm r1 w h (fun t ht => Nat.le_trans (HTX.out t (hn1.2.2 t ht)) hml)
      obtain ⟨p2, hp2⟩ : ∃ x, (nextF Idn.smallB r1).1.1 = x := ⟨_, rfl⟩
      obtain ⟨f2, hf2⟩ : ∃ x, (nextF Idn.smallB r1).1.2 = x := ⟨_, rfl⟩
      obtain ⟨r2, hr2⟩ : ∃ x, (nextF Idn.smallB r1).2 = x := ⟨_, rfl⟩
      have hn2 := nextF_len Idn.smallB r1
      rw [hr2] at hn2
      simp only [hp2, hf2, hr2] at K2
      have HK2 := Lib.hid K2
      have K3 := fun w h hg => key_c kVer g gm r2 w h hg
      obtain ⟨f3, hf3⟩ : ∃ x, (nextF (keyP kVer) r2).1.2 = x := ⟨_, rfl⟩
      obtain ⟨r3, hr3⟩ : ∃ x, (nextF (keyP kVer) r2).2 = x := ⟨_, rfl⟩
      have hn3 := nextF_len (keyP kVer) r2
      rw [hr3] at hn3
      simp only [hf3, hr3] at K3
      have HK3 := Lib.hid K3
      have hp2s : p2.size ≤ 20000 := by rw [← hp2]; exact nextF_size _ r1 (fun t ht => HTX.out t (hn1.2.2 t ht))
      have hhead : headF xs = (f1 && f3, p2, if f1 = true then r3 else r2) := by simp only [headF, hf1, hr1, hp2, hr2, hf3, hr3]
      have HHD := Lib.hid hhead
      clear K1 K2 K3 hf1 hr1 hp2 hf2 hr2 hf3 hr3 hhead
      go_upto_region 12 with (go_at_call 10; refine (HK1.out _ S0.out.words S0.out.gsize).mono ?_; rintro e wb ⟨rfl, h1, h2, h3⟩; have S1 := Lib.hid (S0.out.call HM.out h1 h2 h3); clear h1 h2 h3)
      have m0 := S1.out.man.cell 0
      go_upto_region 13 with (go_at_call 11; refine (HK2.out _ S1.out.words).mono ?_; rintro e wc ⟨rfl, h1, h2, h3⟩; have S2 := Lib.hid (S1.out.call HM.out h1 h2 h3); clear h1 h2 h3 m0; have m0 := S2.out.man.cell 0; simp [mCells] at m0; have mf := S2.out.man.free 0; have ml := S2.out.man.lt)
      have S3 := Lib.hid (S2.out.put 0 (.string p2) (p' := p2) (u1 := 0) (u2 := 0) (u3 := 0) rfl)
      generalize wc.setCell ⟨gm, 0, none⟩ (.string p2) = wd at S3 ⊢
      clear m0 mf ml
      obtain ⟨rs, hrs⟩ : ∃ rs, (if f1 = true then r3 else r2) = rs := ⟨_, rfl⟩
      rw [hrs] at HHD
      have hrsl : rs.length ≤ xs.length ∧ (catL rs).length ≤ (catL xs).length ∧ ∀ t ∈ rs, t ∈ xs := by
        rw [← hrs]
        split
        · exact ⟨by omega, by omega, fun t ht => hn1.2.2 t (hn2.2.2 t (hn3.2.2 t ht))⟩
        · exact ⟨by omega, by omega, fun t ht => hn1.2.2 t (hn2.2.2 t ht)⟩
      have HRS := Lib.hid hrs
      have HRL := Lib.hid hrsl
      go_cut [10] (fun v wx => v = .bool (f1 && f3) ∧ ParSt w g gm gm wx rs p2 0 0 0 (.slice none 0 0) [])
      case first =>
        cases f1
        · have e : r2 = rs := HRS.out
          go_wp2_with fail
          go_meet
          exact ⟨rfl, by rw [← e]; exact S3.out⟩
        · have e : r3 = rs := HRS.out
          go_wp2_with (go_at_call 10; refine (HK3.out _ S3.out.words S3.out.gsize).mono ?_; rintro e wx ⟨rfl, h1, h2, h3⟩; have S4 := Lib.hid (S3.out.call HM.out h1 h2 h3); clear h1 h2 h3)
          go_meet
          exact ⟨rfl, by rw [← e]; exact S4.out⟩
      case rest =>
      obtain ⟨rfl, hs4⟩ := hcut
      have S4 := Lib.hid hs4
      obtain ⟨fine0, hfine⟩ : ∃ x, (f1 && f3) = x := ⟨_, rfl⟩
      rw [hfine] at HHD ⊢
      clear hs4 hrs hrsl hfine HRS HK1 HK2 HK3 S0 S1 S2 S3 hn1 hn2 hn3
      have hl5 := catL_take rs 5
      have J5 := fun w h hg => joined_c 5 g gm rs w h hg (by decide) (by decide) (by have := HRL.out.2.1; omega) (by have := HRL.out.1; omega)
      obtain ⟨L5, hL5⟩ : ∃ x, catL (rs.take 5) = x := ⟨_, rfl⟩
      rw [hL5] at hl5
      simp only [hL5] at J5
      have P5 := fun w hm => parse_c (ba L5) w (by rw [ba_size]; have := HRL.out.2.1; omega) hm
      simp only [ba_data] at P5
      obtain ⟨V, hV⟩ : ∃ x, parV L5 = x := ⟨_, rfl⟩
      obtain ⟨E5, hE5⟩ : ∃ x, parE L5 = x := ⟨_, rfl⟩
      simp only [hV, hE5] at P5
      obtain ⟨V1, V2, V3⟩ := V
      simp only [ver] at P5
      have HJ5 := Lib.hid J5
      have HP5 := Lib.hid P5
      have HL5 := Lib.hid (And.intro hL5 (And.intro hV hE5))
      clear J5 P5 hL5 hV hE5
      go_upto_region 15 with (first
        | (go_at_call 14; refine (HJ5.out _ S4.out.words S4.out.gsize).mono ?_; rintro e we ⟨rfl, h1, h2, h3⟩; have S5 := Lib.hid (S4.out.call HM.out h1 h2 h3); clear h1 h2 h3)
        | (go_at_call 13; refine (HP5.out _ S5.out.max).mono ?_; rintro e wf ⟨rfl, hb⟩; have S6 := Lib.hid (S5.out.quiet hb); clear hb))
      have BV := Lib.hid (Blk.new wf #[.int .i64 V1, .int .i64 V2, .int .i64 V3] 24)
      have S7 := Lib.hid (S6.out.alloc (.cells #[.int .i64 V1, .int .i64 V2, .int .i64 V3] 24))
      generalize wf.alloc (.cells #[.int .i64 V1, .int .i64 V2, .int .i64 V3] 24) = wg at S7 BV ⊢
      generalize wf.heap.size = bv at BV ⊢
      obtain ⟨q0, q1, q2⟩ := cells3 BV.out
      have lq := BV.out.lt
      have m1 := S7.out.man.cell 1
      have m2 := S7.out.man.cell 2
      have m3 := S7.out.man.cell 3
      simp [mCells] at m1 m2 m3
      have g1 := S7.out.man.free 1
      have g2 := S7.out.man.free 2
      have g3 := S7.out.man.free 3
      have ml := S7.out.man.lt
      go_wp2_with fail
      have S8 := Lib.hid (((S7.out.put 1 (.int .i64 V1) (p' := p2) (u1 := V1) (u2 := 0) (u3 := 0) rfl).put 2 (.int .i64 V2) (p' := p2) (u1 := V1) (u2 := V2) (u3 := 0) rfl).put 3 (.int .i64 V3) (p' := p2) (u1 := V1) (u2 := V2) (u3 := V3) rfl)
      generalize ((wg.setCell ⟨gm, 1, none⟩ (.int .i64 V1)).setCell ⟨gm, 2, none⟩ (.int .i64 V2)).setCell ⟨gm, 3, none⟩ (.int .i64 V3) = wh at S8 ⊢
      clear q0 q1 q2 lq m1 m2 m3 g1 g2 g3 ml S4 S5 S6 S7
      obtain ⟨us0, hus0⟩ : ∃ x, rs.drop 5 = x := ⟨_, rfl⟩
      have hu0 : us0.length ≤ xs.length ∧ (catL us0).length ≤ (catL xs).length ∧ ∀ t ∈ us0, t ∈ xs := by
        have h5 := catL_drop rs 5
        have h6 := HRL.out
        rw [← hus0]
        refine ⟨by rw [List.length_drop]; omega, by omega, fun t ht => h6.2.2 t (List.mem_of_mem_drop ht)⟩
      rw [hus0] at S8
      have HU0 := Lib.hid hu0
      have HUS := Lib.hid hus0
      clear hu0 hus0 HJ5 HP5 hl5
      go_loopw [10] (fun v wr => ∃ (k : Nat) (fine : Bool) (us : List ByteArray) (sv : Value) (ds : List Dp), v = .bool fine ∧ ParSt w g gm gm wr us p2 V1 V2 V3 sv ds ∧ (us.length ≤ xs.length ∧ (catL us).length ≤ (catL xs).length ∧ ∀ t ∈ us, t ∈ xs) ∧ depsF xs.length fine0 us0 [] = depsF k fine us ds ∧ us.length ≤ k ∧ ds.length + us.length ≤ xs.length ∧ ∀ d ∈ ds, d.1.size ≤ 20000) (fun _ wr => cellLen wr g)
      case atStart => exact ⟨xs.length, fine0, us0, _, [], rfl, S8.out, HU0.out, rfl, HU0.out.1, by have := HU0.out.1; simpa using this, fun d hd => by cases hd⟩
      case round =>
        obtain ⟨k, fine, us, sv, ds, rfl, hst, hul, heq, huk, hdl, hds⟩ := hrel
        have S9 := Lib.hid hst
        have HEQ := Lib.hid heq
        have HUL := Lib.hid hul
        have K4 := fun w h hg => key_c kDep g gm us w h hg
        obtain ⟨kf, hkf⟩ : ∃ x, (nextF (keyP kDep) us).1.2 = x := ⟨_, rfl⟩
        have hgo := fun h => depsF_go (fine := fine) ds k h huk
        have hstop := depsF_stop (fine := fine) (us := us) ds k
        obtain ⟨u1, hu1⟩ : ∃ x, (nextF (keyP kDep) us).2 = x := ⟨_, rfl⟩
        simp only [hkf, hu1] at K4 hgo hstop
        have HK4 := Lib.hid K4
        have HGO := Lib.hid hgo
        have HST := Lib.hid hstop
        clear K4 hkf hu1 hgo hstop hst heq hul
        go_upto_region 16 with fail
        go_cut [57] from 54 to 68 (fun v wx => v = .bool (fine && kf) ∧ ParSt w g gm gm wx (if fine = true then u1 else us) p2 V1 V2 V3 sv ds)
        case first =>
          cases fine
          · go_wp2_with fail
            go_meet
            exact ⟨rfl, S9.out⟩
          · go_wp2_with (go_at_call 10; refine (HK4.out _ S9.out.words S9.out.gsize).mono ?_; rintro e wx ⟨rfl, h1, h2, h3⟩; have S10 := Lib.hid (S9.out.call HM.out h1 h2 h3); clear h1 h2 h3)
            go_meet
            exact ⟨rfl, S10.out⟩
        case rest =>
        obtain ⟨rfl, hs10⟩ := hcut
        by_cases hmore : (fine && kf) = true
        · obtain ⟨k', r, rfl, rfl, hr, hrl, hrc, hrm, hdf⟩ := HGO.out hmore
          rw [hr] at hs10
          have S10 := Lib.hid hs10
          have HDF := Lib.hid (HEQ.out.trans hdf)
          obtain rfl : kf = true := by simpa using hmore
          have hdl2 := depF_len r
          have hmr : ∀ t ∈ r, t.size ≤ maxLen := fun t ht => Nat.le_trans (HTX.out t (HUL.out.2.2 t (hrm t ht))) hml
          have K5 := fun w h hN hg hm hne => dep_c g gm r w h hN hg hm hne (by have := HUL.out.2.1; omega) (by have := HUL.out.1; omega) hmr
          obtain ⟨dn, hdn⟩ : ∃ x, (depF r).1 = x := ⟨_, rfl⟩
          obtain ⟨dR, hdR⟩ : ∃ x, (depF r).2.1 = x := ⟨_, rfl⟩
          obtain ⟨df, hdf2⟩ : ∃ x, (depF r).2.2.1 = x := ⟨_, rfl⟩
          obtain ⟨u2, hu2⟩ : ∃ x, (depF r).2.2.2 = x := ⟨_, rfl⟩
          rw [hdn, hdR, hdf2, hu2] at HDF
          have hdns : dn.size ≤ 20000 := by rw [← hdn]; exact nextF_size _ r (fun t ht => HTX.out t (HUL.out.2.2 t (hrm t ht)))
          rw [hu2] at hdl2
          simp only [hdn, hdR, hdf2, hu2] at K5
          obtain ⟨⟨a1, a2, a3⟩, ⟨b1, b2, b3⟩⟩ := dR
          simp only [depV] at K5
          have HK5 := Lib.hid K5
          have HU2 := Lib.hid (show u2.length ≤ xs.length ∧ (catL u2).length ≤ (catL xs).length ∧ ∀ t ∈ u2, t ∈ xs from ⟨by have := HUL.out.1; omega, by have := HUL.out.2.1; omega, fun t ht => HUL.out.2.2 t (hrm t (hdl2.2.2 t ht))⟩)
          have hu2l : u2.length + 1 ≤ us.length := by omega
          have hne : (1 : Nat) ≠ g := by have := maxG_lt HM.out; omega
          clear hdn hdR hdf2 hu2 K5 hs10 hdf hr hmr hdl2 HGO HST HK4 HEQ hmore
          go_upto_region 18 with (go_at_call 15; refine (HK5.out _ S10.out.words (Nat.le_of_lt S10.out.man.lt) S10.out.gsize S10.out.max hne).mono ?_; rintro e wx ⟨rfl, h1, h2, h3⟩; have S11 := Lib.hid (S10.out.call HM.out h1 h2 h3); clear h1 h2 h3)
          have BD := Lib.hid (Blk.new wx #[.string dn, .int .i64 a1, .int .i64 a2, .int .i64 a3, .int .i64 b1, .int .i64 b2, .int .i64 b3] 41)
          have S12 := Lib.hid (S11.out.alloc (.cells #[.string dn, .int .i64 a1, .int .i64 a2, .int .i64 a3, .int .i64 b1, .int .i64 b2, .int .i64 b3] 41))
          generalize wx.alloc (.cells #[.string dn, .int .i64 a1, .int .i64 a2, .int .i64 a3, .int .i64 b1, .int .i64 b2, .int .i64 b3] 41) = wy at S12 BD ⊢
          generalize wx.heap.size = bd at BD ⊢
          obtain ⟨q0, q1, q2, q3, q4, q5, q6⟩ := cells7 BD.out
          have m4 := S12.out.man.cell 4
          simp [mCells] at m4
          have ml := S12.out.man.lt
          have lbd := BD.out.lt
          go_wp2_with (at_builtin; refine wpList_append_own _ rfl _ _ 25 rfl (gm + 1) 41 i1 (.agg #[.string { data := #[] }, .int .i64 0, .int .i64 0, .int .i64 0, .int .i64 0, .int .i64 0, .int .i64 0]) 7 64 Tryz.underlying25 ki kz0 kz1 kz2 rfl (by decide) _ ds.length _ rfl (owns_under S12.out.row ((Below.refl _ _).alloc (Nat.le_refl _) _)) _ 1 1 (depV dn ((a1, a2, a3), (b1, b2, b3))).toList rfl ?qd1 ?qd2 ?qd3 ?qd4 ?qd5 ?qd6 ?_)
          case qd1 => simp [depV]
          case qd2 =>
            intro j u hj
            rw [addN]
            have := (Blk.new wy #[.string dn, .int .i64 a1, .int .i64 a2, .int .i64 a3, .int .i64 b1, .int .i64 b2, .int .i64 b3] 41).cell j
            simp only [Nat.zero_add]
            refine this.trans ?_
            rw [← hj]
            simp [depV]
          case qd3 => intro u hu; simp [depV] at hu; rcases hu with rfl | rfl | rfl | rfl | rfl | rfl | rfl <;> rfl
          case qd4 => unfold maxLen; omega
          case qd5 => omega
          case qd6 => simp; omega
          intro v' w3 hown hgrow hnil
          have hz := (S12.out.alloc (.cells #[.string dn, .int .i64 a1, .int .i64 a2, .int .i64 a3, .int .i64 b1, .int .i64 b2, .int .i64 b3] 41))
          have hself : sv.ownBlock ≠ some gm := fun e => by have := (owns_lt hz.row e).1; omega
          have hcl3 : Blk w3 gm (mCells p2 V1 V2 V3 sv) 27 := (hgrow.block gm hz.man.lt (fun e => hself e.symm)).trans hz.man
          have c4 := hcl3.cell 4
          have cf := hcl3.free 4
          have cl := hcl3.lt
          simp [mCells] at c4
          have S13 := Lib.hid (S12.out.push (d := (dn, ((a1, a2, a3), (b1, b2, b3)))) HM.out ((Below.refl _ _).alloc (Nat.le_refl _) (.cells #[.string dn, .int .i64 a1, .int .i64 a2, .int .i64 a3, .int .i64 b1, .int .i64 b2, .int .i64 b3] 41)) hown hgrow)
          obtain ⟨gv, cv, rfl⟩ : ∃ gv cv, v' = .slice (some ⟨gv, 0, none⟩) (ds.length + 1) cv := by
            obtain ⟨-, ⟨rfl, h0⟩ | ⟨gv, cv, cur, rfl, -⟩⟩ := hown
            · omega
            · exact ⟨gv, cv, rfl⟩
          clear hz hself hcl3 hown hgrow hnil m4 ml lbd q0 q1 q2 q3 q4 q5 q6
          have hlen1 := cellLen_of S13.out.words
          have hlen0 := cellLen_of S9.out.words
          go_wp2_with fail
          exact ⟨⟨k', df, u2, _, _, rfl, S13.out, HU2.out, HDF.out, by omega, by simp; omega, fun d hd => by rcases List.mem_append.1 hd with h | h; exact hds d h; simp at h; subst h; exact hdns⟩, by rw [hlen1, hlen0]; omega⟩
        · have hb : (fine && kf) = false := by simpa using hmore
          obtain ⟨he, hr⟩ := HST.out hb
          rw [hr] at hs10
          obtain ⟨A, cd, rfl, hA1, hA2, hDA, hA3⟩ := deps_own hs10.row
          have S10 := Lib.hid hs10
          have HDA := Lib.hid hDA
          have HEND := Lib.hid (HEQ.out.trans he)
          have HDL := Lib.hid hds
          clear hds hDA hs10 he hr HGO HST HEQ HK4 S8 HU0 hmore
          rw [hb]
          go_upto_region 19 with fail
          have K6 := fun w hd => manMay_c p2 V1 V2 V3 A cd ds w hd (by omega) (Nat.le_trans hp2s hml) (fun d hd => Nat.le_trans (HDL.out d hd) hml)
          simp only [manV] at K6
          have HK6 := Lib.hid K6
          clear K6
          go_cut [12, 84] (fun _ v wx => v = .bool (!(fine && (decide (E5 = 0) && (decide (us = []) && mayM p2 (V1, V2, V3) ds)))) ∧ ParSt w g gm gm wx us p2 V1 V2 V3 (.slice A ds.length cd) ds ∧ DepsAt wx A ds)
          case first =>
            cases fine
            · go_wp2_with fail
              go_meet
              exact ⟨rfl, S10.out, HDA.out⟩
            · by_cases hE : E5 = 0
              · have hev : errV E5 = .nilIface := by simp [errV, hE]
                rw [hev]
                obtain ⟨A', c', hbw, -⟩ := S10.out.words
                have w0 := hbw.cell 0
                simp at w0
                by_cases hus : us = []
                · have hul0 : us.length = 0 := by rw [hus]; rfl
                  rw [hul0] at w0
                  have hman := S10.out.man
                  obtain ⟨n0, n1, n2, n3, n4⟩ := cells5 hman
                  obtain ⟨mb, hmb⟩ : ∃ x, mayM p2 (V1, V2, V3) ds = x := ⟨_, rfl⟩
                  rw [hmb] at HK6
                  go_wp2_with (go_at_call 16; refine (HK6.out _ HDA.out).mono ?_; rintro e wx ⟨rfl, hbx⟩; have S11 := Lib.hid (S10.out.quiet hbx); have HDB := Lib.hid (HDA.out.under hbx (Nat.le_refl _)); clear hbx)
                  go_meet
                  exact ⟨by simp [hE, hus, hmb], S11.out, HDB.out⟩
                · have hlt0 : 0 < us.length := by cases us with | nil => exact absurd rfl hus | cons => simp
                  have hlt1 : (0 : Int) < (us.length : Int) := by omega
                  go_wp2_with fail
                  go_meet
                  exact ⟨by simp [hE, hus], S10.out, HDA.out⟩
              · have hev : errV E5 = .iface 32 (.int .i64 E5) := by simp [errV, hE]
                rw [hev]
                go_wp2_with fail
                go_meet
                exact ⟨by simp [hE], S10.out, HDA.out⟩
          case rest =>
          obtain ⟨rfl, hs11, hd11⟩ := hcut
          obtain ⟨ok, hok⟩ : ∃ x, (fine && (decide (E5 = 0) && (decide (us = []) && mayM p2 (V1, V2, V3) ds))) = x := ⟨_, rfl⟩
          rw [hok]
          have hman : manF xs = if (fine = true ∧ E5 = 0 ∧ us = [] ∧ mayM p2 (V1, V2, V3) ds = true) then some (p2, (V1, V2, V3), ds) else none := by
            simp only [manF, HHD.out, HUS.out, HEND.out, HL5.out.1, HL5.out.2.1, HL5.out.2.2]
          cases ok
          · have hnone : manF (ts.map Tok.text) = none := by
              rw [HXS.out, hman, if_neg]
              rintro ⟨h1, h2, h3, h4⟩
              simp [h1, h2, h3, h4] at hok
            have HN := Lib.hid hnone
            have BZ2 := Lib.hid hs11.zero
            have A2 := Lib.hid hs11.below
            clear hman hok hs11 hd11 hnone
            obtain ⟨k0, k1, k2, k3, k4⟩ := cells5 BZ2.out
            have f0 := BZ2.out.free 0
            have f1 := BZ2.out.free 1
            have f2 := BZ2.out.free 2
            have f3 := BZ2.out.free 3
            have f4 := BZ2.out.free 4
            have lz := BZ2.out.lt
            go_wp2_with fail
            have hp := put5_full (.string { data := #[] }) (.int .i64 0) (.int .i64 0) (.int .i64 0) (.slice none 0 0) BZ2.out
            have hbp := put5_bel (.string { data := #[] }) (.int .i64 0) (.int .i64 0) (.int .i64 0) (.slice none 0 0) A2.out (Nat.le_refl _)
            generalize (((((wc.setCell ⟨w.heap.size, 0, none⟩ (.string { data := #[] })).setCell ⟨w.heap.size, 1, none⟩ (.int .i64 0)).setCell ⟨w.heap.size, 2, none⟩ (.int .i64 0)).setCell ⟨w.heap.size, 3, none⟩ (.int .i64 0)).setCell ⟨w.heap.size, 4, none⟩ (.slice none 0 0)) = Wz at hp hbp ⊢
            obtain ⟨r0, r1, r2, r3, r4⟩ := cells5 hp
            refine bodyPost_ret (by simp [results, Tryz.results5, go_sem, r0, r1, r2, r3, r4]; try rfl) rfl ?_
            exact ⟨hbp, .inr (.inl ⟨ts, HSC.out, HN.out, rfl⟩)⟩
          · have hsome : manF (ts.map Tok.text) = some (p2, (V1, V2, V3), ds) := by
              rw [HXS.out, hman, if_pos]
              simpa using hok
            have HN := Lib.hid hsome
            have hbA : ∀ b o, A = some ⟨b, o, none⟩ → gm < b := by
              intro b o e
              subst e
              have := (owns_lt hs11.row (g := b) (by simp [Value.ownBlock])).1
              omega
            have HBA := Lib.hid hbA
            have S12 := Lib.hid hs11
            have HD := Lib.hid hd11
            have m4 := hs11.man.cell 4
            simp [mCells] at m4
            have mf := hs11.man.free 4
            have ml := hs11.man.lt
            have hcl := fun w => clip_c A ds.length cd w hA1 hA2 hA3
            have HCLP := Lib.hid hcl
            clear hman hok hs11 hd11 hsome hbA hcl
            go_upto_region 22 with (go_at_call 17; refine (HCLP.out _).mono ?_; rintro e wx ⟨rfl, rfl⟩)
            clear m4 mf
            have hM3 := S12.out.man.set 4 (.slice A ds.length ds.length)
            have hZ3 := S12.out.zero.far ⟨gm, 4, none⟩ (.slice A ds.length ds.length) (by simp only; omega)
            have hB3 := S12.out.below.setCell (p := ⟨gm, 4, none⟩) (by simp only; omega) (.slice A ds.length ds.length)
            have hD3 : DepsAt _ A ds := HD.out.keep (w' := wx.setCell ⟨gm, 4, none⟩ (.slice A ds.length ds.length)) (fun b o e => Below.heap_setCell wx ⟨gm, 4, none⟩ _ b (by have := HBA.out b o e; simp only; omega))
            simp [mCells] at hM3
            generalize wx.setCell ⟨gm, 4, none⟩ (.slice A ds.length ds.length) = wy at hM3 hZ3 hB3 hD3 ⊢
            obtain ⟨n0, n1, n2, n3, n4⟩ := cells5 hM3
            obtain ⟨k0, k1, k2, k3, k4⟩ := cells5 hZ3
            have f0 := hZ3.free 0
            have f1 := hZ3.free 1
            have f2 := hZ3.free 2
            have f3 := hZ3.free 3
            have f4 := hZ3.free 4
            have lz := hZ3.lt
            have HZ3 := Lib.hid hZ3
            have HB3 := Lib.hid hB3
            have HD3 := Lib.hid hD3
            clear hZ3 hM3 hB3 hD3
            go_wp2_with fail
            have hp := put5_full (.string p2) (.int .i64 V1) (.int .i64 V2) (.int .i64 V3) (.slice A ds.length ds.length) HZ3.out
            have hbp := put5_bel (.string p2) (.int .i64 V1) (.int .i64 V2) (.int .i64 V3) (.slice A ds.length ds.length) HB3.out (Nat.le_refl _)
            have hdp := HD3.out.keep (fun b o e => put5_heap (g := w.heap.size) (.string p2) (.int .i64 V1) (.int .i64 V2) (.int .i64 V3) (.slice A ds.length ds.length) (by have := HBA.out b o e; omega))
            generalize (((((wy.setCell ⟨w.heap.size, 0, none⟩ (.string p2)).setCell ⟨w.heap.size, 1, none⟩ (.int .i64 V1)).setCell ⟨w.heap.size, 2, none⟩ (.int .i64 V2)).setCell ⟨w.heap.size, 3, none⟩ (.int .i64 V3)).setCell ⟨w.heap.size, 4, none⟩ (.slice A ds.length ds.length)) = Wz at hp hbp hdp ⊢
            obtain ⟨r0, r1, r2, r3, r4⟩ := cells5 hp
            refine bodyPost_ret (by simp [results, Tryz.results5, go_sem, r0, r1, r2, r3, r4]; try rfl) rfl ?_
            exact ⟨hbp, .inr (.inr ⟨ts, p2, (V1, V2, V3), ds, A, ds.length, HSC.out, HN.out, rfl, hdp⟩)⟩
end Go.Proofs.YtlpgkldialmofaaGreatDoor
