/- The contract of sub.both, by what bound does at the parts: the walk. -/
import Derived.Test.YtalpmjmifcofeaaBothA
import Derived.Deep.RegionLaw
import Derived.Deep.AppendLies
import Derived.Test.YtalpmjmifcofeaaRegL
import Derived.Deep.DeepCutAuto
namespace Go.Proofs.Ytalpmjmifcofeaa
open Go.RowKit
set_option linter.unusedSimpArgs false
set_option linter.unusedVariables false
theorem laid0 (w : World) (C : Array Value) (T : TypeId) : Below w.heap.size w (w.alloc (.cells C T)) ∧ (w.alloc (.cells C T)).heap[w.heap.size]? = some (.cells C T (0, 0)) ∧ (w.alloc (.cells C T)).heap.size = w.heap.size + 1 :=
  ⟨(Below.refl _ _).alloc (Nat.le_refl _) _, heap_alloc_new w _, by simp⟩
theorem laid_drew (w : World) (C : Array Value) (T : TypeId) : Below w.heap.size w ((w.alloc (.cells C T)).drew) ∧ ((w.alloc (.cells C T)).drew).heap[w.heap.size]? = some (.cells C T (0, 0)) ∧ ((w.alloc (.cells C T)).drew).heap.size = w.heap.size + 1 := by
  obtain ⟨h1, h2, h3⟩ := laid0 w C T
  exact ⟨h1.drew, h2, h3⟩
theorem laid_two {w X : World} {o : Obj} (hX : Below w.heap.size w X) (hs : X.heap.size = w.heap.size + 1) (hb : X.heap[w.heap.size]? = some o) (C : Array Value) (T : TypeId) :
    Below w.heap.size w (X.alloc (.cells C T)) ∧ (X.alloc (.cells C T)).heap[w.heap.size]? = some o ∧ (X.alloc (.cells C T)).heap[w.heap.size + 1]? = some (.cells C T (0, 0)) ∧ (X.alloc (.cells C T)).heap.size = w.heap.size + 1 + 1 := by
  obtain ⟨h1, h2, h3⟩ := laid0 X C T
  rw [hs] at h2 h3
  refine ⟨hX.alloc (by omega) _, ?_, h2, h3⟩
  rw [h1.block _ (by omega)]
  exact hb
theorem Until.off {cs : List (Nat × (World → Prop))} {l : Array Bool} {w : World} (h : (cs.all fun x => l.getD x.1 true) = true) : Until cs l w := fun x hx hl => by
  have := List.all_eq_true.1 h x hx
  rw [hl] at this
  cases this
theorem tb7 {w : World} {b : Nat} {T : TypeId} {v0 v1 v2 v3 v4 v5 v6 : Value} (h : Blk w b #[v0, v1, v2, v3, v4, v5, v6] T) : w.cell? ⟨b, 0, none⟩ = some v0 ∧ w.cell? ⟨b, 1, none⟩ = some v1 ∧ w.cell? ⟨b, 2, none⟩ = some v2 ∧ w.cell? ⟨b, 3, none⟩ = some v3 ∧ w.cell? ⟨b, 4, none⟩ = some v4 ∧ w.cell? ⟨b, 5, none⟩ = some v5 ∧ w.cell? ⟨b, 6, none⟩ = some v6 :=
  ⟨h.cell 0, h.cell 1, h.cell 2, h.cell 3, h.cell 4, h.cell 5, h.cell 6⟩
set_option maxRecDepth 100000 in
set_option maxHeartbeats 40000000 in
theorem both_c (r : Ty → Ty → Option Ty) (a b : Ty) (up : Bool) (cs cs' : Array Value) (B : Nat) (w : World) (ha : TyC w B a cs) (hb : TyC w B b cs') (hB : B ≤ w.heap.size)
    (hra : RowsOk a) (hrb : RowsOk b) (hla : a.subs.length ≤ 20) (hbd : ∀ x y, x ∈ a.subs → y ∈ b.subs → BoundAt x y up (r x y)) :
    Calls Try.prog 61 #[.agg cs, .agg cs', .bool up] w fun e w' => (∃ cs'', e = .returned (.agg cs'') ∧
      TyM w' (fun b => b < B ∨ Fresh w w' b) (.mk a.kind { data := #[] } 0 { data := #[] } { data := #[] } ((bothL r b a.names a.subs).map (·.1)) ((bothL r b a.names a.subs).map (·.2))) cs'') ∧ Below w.heap.size w w' := by
  have HI := Lib.hid hbd
  have HRB := Lib.hid hrb
  obtain ⟨na, nc, sa, sc, f, rfl, hfa, hn, hs, -, -, hsub⟩ := ha.inv
  obtain ⟨na', nc', sa', sc', f', rfl, -, hn', hs', -, -, hsub'⟩ := hb.inv
  have HA := Lib.hid ha
  have HB := Lib.hid hb
  have HF := Lib.hid hfa
  have HN := Lib.hid hn
  have HS := Lib.hid hs
  have HU := Lib.hid hsub
  have hlen := hra.len
  clear ha hb hn hs hsub hn' hs' hsub' hbd hra hrb hfa
  obtain ⟨iN, hiN, hzN0, hzN1, hzN2⟩ := info_parts info_str
  obtain ⟨iS, hiS, hzS0, hzS1, hzS2⟩ := info_parts info_type
  go_enter Try.func61, Try.ntmps61
  simp only [tyCells]
  go_wp2_with fail
  have h4 := boxes4 w #[.int .i64 a.kind, .string a.pkg, .int .i64 a.major, .string a.mod, .string a.name, .slice na a.names.length nc, .slice sa a.subs.length sc] #[.int .i64 b.kind, .string b.pkg, .int .i64 b.major, .string b.mod, .string b.name, .slice na' b.names.length nc', .slice sa' b.subs.length sc']
    #[.int .i64 0, .string { data := #[] }, .int .i64 0, .string { data := #[] }, .string { data := #[] }, .slice none 0 0, .slice none 0 0] #[.int .i64 a.kind, .string { data := #[] }, .int .i64 0, .string { data := #[] }, .string { data := #[] }, .slice none 0 0, .slice none 0 0] 25
  generalize ((((w.alloc (.cells #[.int .i64 a.kind, .string a.pkg, .int .i64 a.major, .string a.mod, .string a.name, .slice na a.names.length nc, .slice sa a.subs.length sc] 25)).alloc (.cells #[.int .i64 b.kind, .string b.pkg, .int .i64 b.major, .string b.mod, .string b.name, .slice na' b.names.length nc', .slice sa' b.subs.length sc'] 25)).alloc (.cells #[.int .i64 0, .string { data := #[] }, .int .i64 0, .string { data := #[] }, .string { data := #[] }, .slice none 0 0, .slice none 0 0] 25)).alloc (.cells #[.int .i64 a.kind, .string { data := #[] }, .int .i64 0, .string { data := #[] }, .string { data := #[] }, .slice none 0 0, .slice none 0 0] 25)) = W at h4 ⊢
  obtain ⟨x0, x1, x2, x3, xs, xb⟩ := h4
  have hst : BothRel w W a b na nc sa sc na' nc' sa' sc' B r (.slice none 0 0) (.slice none 0 0) [] 0 := ⟨xb, by omega, x0, x1, x2, x3, Out2.nil _ _ _⟩
  have HST := Lib.hid hst
  clear x0 x1 x2 x3 xs xb hst
  go_loopw [20] (fun i wr => ∃ (k : Nat) (nv sv : Value) (F : List (Array Value)), k ≤ a.names.length ∧ i = .int .i64 k ∧ BothRel w wr a b na nc sa sc na' nc' sa' sc' B r nv sv F k) (fun i _ => a.names.length - (intOf i).toNat)
  case atStart => exact ⟨0, _, _, _, Nat.zero_le _, rfl, HST.out⟩
  case round =>
    clear HST
    obtain ⟨k, nv, sv, F, hk, rfl, hr⟩ := hrel
    have HR := Lib.hid hr
    have hacc := hr.below
    have hsz := hr.size
    by_cases hlt : k < a.names.length
    · have hlt' : k < a.subs.length := by omega
      have hk20 : k < 20 := by omega
      rcases HN.out with h0 | ⟨bn, on, rfl, hbn, hcn⟩
      · rw [h0] at hlt; simp at hlt
      have hck : wr.cell? ⟨bn, on + k, none⟩ = some (.string a.names[k]) := (hacc.cell (p := ⟨bn, on + k, none⟩) (by simp; omega)).trans (hcn k hlt)
      have b0 := hr.boxb.cell 0
      have b1 := hr.boxb.cell 1
      have b2 := hr.boxb.cell 2
      have b3 := hr.boxb.cell 3
      have b4 := hr.boxb.cell 4
      have b5 := hr.boxb.cell 5
      have b6 := hr.boxb.cell 6
      simp [tyCells] at b0 b1 b2 b3 b4 b5 b6
      have hltI : (k : Int) < (a.names.length : Int) := by omega
      clear hr hcn
      go_wp2_with fail
      refine (of_c b a.names[k] _ B wr (HB.out.under (hacc.mono hB)) (by omega) HRB.out).mono ?_
      rintro e w1 ⟨⟨cy, rfl, hty⟩, hb1⟩
      obtain ⟨na1, nc1, sa1, sc1, f1, rfl, -⟩ := hty.inv
      have HTY := Lib.hid hty
      have HB1 := Lib.hid hb1
      clear b0 b1 b2 b3 b4 b5 b6 hck hty
      simp only [tyCells]
      cases hm : memB a.names[k] b.names
      · go_wp2
        have hnx := HR.out.skip hlt hlt' hB (HB1.out.alloc HB1.out.size (.cells #[.int .i64 (ofT b a.names[k]).kind, .string (ofT b a.names[k]).pkg, .int .i64 (ofT b a.names[k]).major, .string (ofT b a.names[k]).mod, .string (ofT b a.names[k]).name, .slice na1 (ofT b a.names[k]).names.length nc1, .slice sa1 (ofT b a.names[k]).subs.length sc1] 25)) (by rw [stepB, hm]; rfl)
        first
          | exact ⟨⟨k + 1, _, _, _, by omega, by go_num, hnx⟩, by simp [intOf]; omega⟩
          | (go_roundw
             case rel => exact ⟨k + 1, _, _, _, by omega, by go_num, hnx⟩
             case measure => simp [intOf]; omega)
      · have HM := Lib.hid hm
        go_wp2
        have hB2 : Below wr.heap.size wr (w1.alloc (.cells #[.int .i64 (ofT b a.names[k]).kind, .string (ofT b a.names[k]).pkg, .int .i64 (ofT b a.names[k]).major, .string (ofT b a.names[k]).mod, .string (ofT b a.names[k]).name, .slice na1 (ofT b a.names[k]).names.length nc1, .slice sa1 (ofT b a.names[k]).subs.length sc1] 25)) :=
          HB1.out.alloc HB1.out.size _
        have hyb := Blk.new w1 #[.int .i64 (ofT b a.names[k]).kind, .string (ofT b a.names[k]).pkg, .int .i64 (ofT b a.names[k]).major, .string (ofT b a.names[k]).mod, .string (ofT b a.names[k]).name, .slice na1 (ofT b a.names[k]).names.length nc1, .slice sa1 (ofT b a.names[k]).subs.length sc1] 25
        have hs1 := HB1.out.size
        have hTY := HTY.out.alloc (by omega) (.cells #[.int .i64 (ofT b a.names[k]).kind, .string (ofT b a.names[k]).pkg, .int .i64 (ofT b a.names[k]).major, .string (ofT b a.names[k]).mod, .string (ofT b a.names[k]).name, .slice na1 (ofT b a.names[k]).names.length nc1, .slice sa1 (ofT b a.names[k]).subs.length sc1] 25)
        generalize hYb : w1.heap.size = yb at hyb ⊢
        generalize (w1.alloc (.cells #[.int .i64 (ofT b a.names[k]).kind, .string (ofT b a.names[k]).pkg, .int .i64 (ofT b a.names[k]).major, .string (ofT b a.names[k]).mod, .string (ofT b a.names[k]).name, .slice na1 (ofT b a.names[k]).names.length nc1, .slice sa1 (ofT b a.names[k]).subs.length sc1] 25)) = W2 at hB2 hyb hTY ⊢
        have HT2 := Lib.hid hTY
        have hacc2 : Below w.heap.size w W2 := acc0 hacc (by omega) hB2
        have q6 : W2.cell? ⟨w.heap.size, 6, none⟩ = some (.slice sa a.subs.length sc) := (hB2.cell (p := ⟨w.heap.size, 6, none⟩) (by simp; omega)).trans (HR.out.boxa.cell 6)
        have y0 := hyb.cell 0
        have y1 := hyb.cell 1
        have y2 := hyb.cell 2
        have y3 := hyb.cell 3
        have y4 := hyb.cell 4
        have y5 := hyb.cell 5
        have y6 := hyb.cell 6
        simp at y0 y1 y2 y3 y4 y5 y6
        have hT1 := (HU.out k hlt').under (hacc2.mono hB)
        obtain ⟨b2, o2, na2, nc2, sa2, sc2, rfl, hbb2, hfk2, d0, d1, d2, d3, d4, d5, d6⟩ := TyC.elem (HS.out.keep fun p hp => hacc2.cell (p := p) (by omega)) hlt' hT1
        rw [hfk2] at hT1
        have HT1 := Lib.hid hT1
        have HYB := Lib.hid hyb
        have HW2 := Lib.hid hB2
        have hltS : (k : Int) < (a.subs.length : Int) := by omega
        clear hTY hT1 hfk2 hyb hB2 hm
        have hylt : yb < W2.heap.size := HYB.out.lt
        have hq1 : w.heap.size < W2.heap.size := by have := hacc2.size; have := HW2.out.size; omega
        have hq2 : b2 < W2.heap.size := by omega
        have hw2 : B ≤ W2.heap.size := by have := hacc2.size; omega
        have hX1 : W2.heap.size ≤ W2.drew.heap.size := Nat.le_refl _
        have hX2 : W2.heap.size + 1 ≤ (W2.alloc (.cells #[.int .i64 0, .string { data := #[] }, .int .i64 0, .string { data := #[] }, .string { data := #[] }, .slice none 0 0, .slice none 0 0] 25)).drew.heap.size := by
          show W2.heap.size + 1 ≤ (W2.alloc _).heap.size
          simp
        have hBr : B ≤ wr.heap.size := by omega
        go_cut [12, 13, 20] (fun s12 s13 s20 wx => ∃ (tb : Nat) (t : Ty) (na3 : Option Addr) (nc3 : Nat) (sa3 : Option Addr) (sc3 : Nat), s12 = .pointer (some ⟨tb, 0, none⟩) ∧ s13 = .bool (r a.subs[k] (ofT b a.names[k])).isSome ∧ s20 = .int .i64 k ∧ CutRel wr wx B t (tyCells t na3 nc3 sa3 sc3) tb ∧ (∀ x, r a.subs[k] (ofT b a.names[k]) = some x → t = x))
        case first =>
         go_region_law (first
           | (go_simp; go_at_call 39; refine (HI.out a.subs[k] (ofT b a.names[k]) (List.getElem_mem hlt') (ofT_mem HM.out HRB.out.len) _ _ B W2.drew (HT1.out.keep fun _ _ => rfl) (HT2.out.keep fun _ _ => rfl) hw2).mono ?_; rintro e w3 ⟨⟨t, cr, rfl, hrt, htm⟩, hb3⟩; obtain ⟨na3, nc3, sa3, sc3, f3, rfl, -⟩ := htm.inv; simp only [tyCells]; have hAl : Below W2.heap.size W2 w3 := (Below.refl _ _).drew.trans hb3; have HAL := Lib.hid hAl; clear hAl; have HTM := Lib.hid htm; have HB3 := Lib.hid hb3; have HRT := Lib.hid hrt; clear htm hb3 hrt)
           | (go_simp; go_at_call 39; refine (HI.out a.subs[k] (ofT b a.names[k]) (List.getElem_mem hlt') (ofT_mem HM.out HRB.out.len) _ _ B (W2.alloc (.cells #[.int .i64 0, .string { data := #[] }, .int .i64 0, .string { data := #[] }, .string { data := #[] }, .slice none 0 0, .slice none 0 0] 25)).drew ((HT1.out.alloc hw2 _).keep fun _ _ => rfl) ((HT2.out.alloc hw2 _).keep fun _ _ => rfl) (by show B ≤ (W2.alloc _).heap.size; simp; omega)).mono ?_; rintro e w3 ⟨⟨t, cr, rfl, hrt, htm⟩, hb3⟩; obtain ⟨na3, nc3, sa3, sc3, f3, rfl, -⟩ := htm.inv; simp only [tyCells]; have zb : Blk w3 W2.heap.size #[.int .i64 0, .string { data := #[] }, .int .i64 0, .string { data := #[] }, .string { data := #[] }, .slice none 0 0, .slice none 0 0] 25 := (Blk.new W2 #[.int .i64 0, .string { data := #[] }, .int .i64 0, .string { data := #[] }, .string { data := #[] }, .slice none 0 0, .slice none 0 0] 25).drew.under hb3 (by show W2.heap.size < (W2.alloc _).heap.size; simp); have hAl : Below W2.heap.size W2 w3 := ((Below.refl W2.heap.size W2).alloc (Nat.le_refl _) _).drew.trans (hb3.mono (by show W2.heap.size ≤ (W2.alloc _).heap.size; simp)); have HAL := Lib.hid hAl; clear hAl; have z0 := zb.cell 0; have zf0 := zb.free 0; have z1 := zb.cell 1; have zf1 := zb.free 1; have z2 := zb.cell 2; have zf2 := zb.free 2; have z3 := zb.cell 3; have zf3 := zb.free 3; have z4 := zb.cell 4; have zf4 := zb.free 4; have z5 := zb.cell 5; have zf5 := zb.free 5; have z6 := zb.cell 6; have zf6 := zb.free 6; simp at z0 z1 z2 z3 z4 z5 z6; have HZB := Lib.hid zb; clear zb; have HTM := Lib.hid htm; have HB3 := Lib.hid hb3; have HRT := Lib.hid hrt; clear htm hb3 hrt))
         all_goals first
           | (have hq := CutRel.two (W2 := W2) (X := (W2.alloc (.cells #[.int .i64 0, .string { data := #[] }, .int .i64 0, .string { data := #[] }, .string { data := #[] }, .slice none 0 0, .slice none 0 0] 25)).drew) hBr HW2.out HAL.out hX2 HZB.out HTM.out; generalize (((((((((((((w3.setCell ⟨W2.heap.size, 0, none⟩ (.int .i64 t.kind))).setCell ⟨W2.heap.size, 1, none⟩ (.string t.pkg))).setCell ⟨W2.heap.size, 2, none⟩ (.int .i64 t.major))).setCell ⟨W2.heap.size, 3, none⟩ (.string t.mod))).setCell ⟨W2.heap.size, 4, none⟩ (.string t.name))).setCell ⟨W2.heap.size, 5, none⟩ (.slice na3 t.names.length nc3))).setCell ⟨W2.heap.size, 6, none⟩ (.slice sa3 t.subs.length sc3)) = Wz at hq ⊢)
           | (have hq := CutRel.one (W2 := W2) (X := W2.drew) hBr HW2.out HAL.out hX1 HTM.out; simp only [tyCells] at hq; generalize (w3.alloc (.cells #[.int .i64 t.kind, .string t.pkg, .int .i64 t.major, .string t.mod, .string t.name, .slice na3 t.names.length nc3, .slice sa3 t.subs.length sc3] 25)) = Wz at hq ⊢)
         all_goals
           have HQ := Lib.hid hq
           clear hq
           go_wp2_with fail
           go_meet
           exact ⟨_, _, _, _, _, _, rfl, rfl, rfl, HQ.out, HRT.out⟩
        case rest =>
         obtain ⟨tb, t, na3, nc3, sa3, sc3, rfl, rfl, rfl, hc, hrt⟩ := hcut
         clear y0 y1 y2 y3 y4 y5 y6 d0 d1 d2 d3 d4 d5 d6 q6
         have HC := Lib.hid hc
         cases hr : r a.subs[k] (ofT b a.names[k])
         · clear hc hrt
           simp only [Option.isSome_none]
           go_wp2
           have hnx := HR.out.skip hlt hlt' hB HC.out.below (by rw [stepB, HM.out, hr]; rfl)
           first
             | exact ⟨⟨k + 1, _, _, _, by omega, by go_num, hnx⟩, by simp [intOf]; omega⟩
             | (go_roundw
                case rel => exact ⟨k + 1, _, _, _, by omega, by go_num, hnx⟩
                case measure => simp [intOf]; omega)
         · obtain rfl := hrt _ hr
           have HRR := Lib.hid hr
           have hbx := HR.out.out.under hc.below HR.out.out.lt
           have htb := hc.blk
           have e5 := hbx.cell 5
           have e6 := hbx.cell 6
           have f5 := hbx.free 5
           have f6 := hbx.free 6
           have t0 := htb.cell 0
           have t1 := htb.cell 1
           have t2 := htb.cell 2
           have t3 := htb.cell 3
           have t4 := htb.cell 4
           have t5 := htb.cell 5
           have t6 := htb.cell 6
           have hlb := hbx.lt
           have hlt3 := htb.lt
           have hlb1 : w.heap.size + 1 + 1 + 1 < wc.heap.size + 1 := by omega
           have hlt31 : tb < wc.heap.size + 1 := by omega
           simp [tyCells] at e5 e6 t0 t1 t2 t3 t4 t5 t6
           have hrw := HR.out.rows.under hc.below (by omega)
           have HBX := Lib.hid hbx
           have HTB := Lib.hid htb
           have hown1 := fun g hg => owns_lt HR.out.rows.row1 (g := g) hg
           have hown2 := fun g hg => owns_lt HR.out.rows.row2 (g := g) hg
           have hlo := hc.lo
           have hbw := hc.below.size
           have hnb : nv.ownBlock ≠ some (w.heap.size + 1 + 1 + 1) := fun e => by have := hown1 _ e; omega
           have hnt : nv.ownBlock ≠ some tb := fun e => by have := hown1 _ e; omega
           have hsb : sv.ownBlock ≠ some (w.heap.size + 1 + 1 + 1) := fun e => by have := hown2 _ e; omega
           have hnw : ∀ b, wc.heap.size ≤ b → nv.ownBlock ≠ some b := fun b hb e => by have := hown1 _ e; omega
           have hLl : (bothL r b (a.names.take k) (a.subs.take k)).length ≤ 20 := by
             have := bothL_len r b (a.names.take k) (a.subs.take k)
             rw [List.length_take] at this
             omega
           generalize hLd : bothL r b (a.names.take k) (a.subs.take k) = L at hrw hLl
           have HLD := Lib.hid hLd
           clear hown1 hown2 hLd
           have HRW := Lib.hid hrw
           clear hc hrt hr hbx htb hrw
           simp only [Option.isSome_some]
           go_wp2
           have hone1 : ∀ u ∈ [Value.string a.names[k]], u.oneCell' = true := by simp [Value.oneCell']
           have hone7 : ∀ u ∈ (#[.int .i64 t.kind, .string t.pkg, .int .i64 t.major, .string t.mod, .string t.name, .slice na3 t.names.length nc3, .slice sa3 t.subs.length sc3] : Array Value).toList, u.oneCell' = true := by simp [Value.oneCell']
           have hml : L.length + 1 ≤ maxLen := by unfold maxLen; omega
           have hb16 : (L.length + 1) * 16 ≤ 140737488355328 := by omega
           have hb112 : (L.length + 1) * 112 ≤ 140737488355328 := by omega
           clear HN HS HA HB HU HF HI HRB HTY HT2 HT1 HYB HB1
           generalize hVA : Value.agg #[.int .i64 a.kind, .string a.pkg, .int .i64 a.major, .string a.mod, .string a.name, .slice (some ⟨bn, on, none⟩) a.names.length nc, .slice (some ⟨b2, o2, none⟩) a.subs.length sc] = VA
           generalize hVB : Value.agg #[.int .i64 b.kind, .string b.pkg, .int .i64 b.major, .string b.mod, .string b.name, .slice na' b.names.length nc', .slice sa' b.subs.length sc'] = VB
           generalize hVO : Value.agg #[.int .i64 a.kind, .string { data := #[] }, .int .i64 0, .string { data := #[] }, .string { data := #[] }, .slice none 0 0, .slice none 0 0] = VO
           have hst : sv.ownBlock ≠ some tb := fun e => by have := owns_lt HR.out.rows.row2 e; have := HC.out.lo; omega
           have htbx : tb ≠ w.heap.size + 1 + 1 + 1 := by have := HC.out.lo; omega
           refine wp_region_until [(4, fun w' => w'.cell? ⟨w.heap.size + 1 + 1 + 1, 5, none⟩ = some nv), (9, fun w' => w'.cell? ⟨w.heap.size + 1 + 1 + 1, 6, none⟩ = some sv), (8, fun w' => Blk w' tb #[.int .i64 t.kind, .string t.pkg, .int .i64 t.major, .string t.mod, .string t.name, .slice na3 t.names.length nc3, .slice sa3 t.subs.length sc3] 25)] (by kernel_rfl) (Until.cons (fun _ => HBX.out.drew.cell 5) (Until.cons (fun _ => HBX.out.drew.cell 6) (Until.cons (fun _ => HTB.out.drew) Until.nil))) (fun hU => ?_)
           refine AnyU.take (i := 0) (v := ?_) rfl (by kernel_rfl) (by kernel_rfl) (by kernel_rfl) (fun _ _ _ h => h) (by kernel_rfl) (by assumption) (by rfl) ?_ (fun hU => ?_)
           rotate_left 1
           · (intro wq; go_simp; try with_reducible rfl)
           simp only [Act.put, List.getElem_toArray, List.getElem_cons_zero, List.getElem_cons_succ, List.setIfInBounds_toArray, List.set_cons_zero, List.set_cons_succ]
           refine AnyU.load (i := 1) (d := 4) (Si := fun w' => w'.cell? ⟨w.heap.size + 1 + 1 + 1, 5, none⟩ = some nv) (v := ?_) rfl rfl (by kernel_rfl) (by kernel_rfl) (by kernel_rfl) (fun _ _ _ h => h) (by kernel_rfl) (by assumption) (by kernel_rfl) (by kernel_rfl) (by simp) (by rfl) ?_ (fun hU => ?_)
           rotate_left 1
           · (intro wq hq; go_simp; try with_reducible rfl)
           simp only [Act.put, List.getElem_toArray, List.getElem_cons_zero, List.getElem_cons_succ, List.setIfInBounds_toArray, List.set_cons_zero, List.set_cons_succ]
           refine AnyU.take (i := 2) (v := ?_) rfl (by kernel_rfl) (by kernel_rfl) (by kernel_rfl) (fun _ _ _ h => h) (by kernel_rfl) (by assumption) (by rfl) ?_ (fun hU => ?_)
           rotate_left 1
           · (intro wq; go_simp; try with_reducible rfl)
           simp only [Act.put, List.getElem_toArray, List.getElem_cons_zero, List.getElem_cons_succ, List.setIfInBounds_toArray, List.set_cons_zero, List.set_cons_succ]
           refine AnyU.take (i := 5) (v := ?_) rfl (by kernel_rfl) (by kernel_rfl) (by kernel_rfl) (fun _ _ _ h => h) (by kernel_rfl) (by assumption) (by rfl) ?_ (fun hU => ?_)
           rotate_left 1
           · (intro wq; go_simp; try with_reducible rfl)
           simp only [Act.put, List.getElem_toArray, List.getElem_cons_zero, List.getElem_cons_succ, List.setIfInBounds_toArray, List.set_cons_zero, List.set_cons_succ]
           refine AnyU.load (i := 6) (d := 9) (Si := fun w' => w'.cell? ⟨w.heap.size + 1 + 1 + 1, 6, none⟩ = some sv) (v := ?_) rfl rfl (by kernel_rfl) (by kernel_rfl) (by kernel_rfl) (fun _ _ _ h => h) (by kernel_rfl) (by assumption) (by kernel_rfl) (by kernel_rfl) (by simp) (by rfl) ?_ (fun hU => ?_)
           rotate_left 1
           · (intro wq hq; go_simp; try with_reducible rfl)
           simp only [Act.put, List.getElem_toArray, List.getElem_cons_zero, List.getElem_cons_succ, List.setIfInBounds_toArray, List.set_cons_zero, List.set_cons_succ]
           refine AnyU.load (i := 7) (d := 8) (Si := fun w' => Blk w' tb #[.int .i64 t.kind, .string t.pkg, .int .i64 t.major, .string t.mod, .string t.name, .slice na3 t.names.length nc3, .slice sa3 t.subs.length sc3] 25) (v := ?_) rfl rfl (by kernel_rfl) (by kernel_rfl) (by kernel_rfl) (fun _ _ _ h => h) (by kernel_rfl) (by assumption) (by kernel_rfl) (by kernel_rfl) (by simp) (by rfl) ?_ (fun hU => ?_)
           rotate_left 1
           · (intro wq hq; obtain ⟨u0, u1, u2, u3, u4, u5, u6⟩ := tb7 hq; go_simp; try with_reducible rfl)
           simp only [Act.put, List.getElem_toArray, List.getElem_cons_zero, List.getElem_cons_succ, List.setIfInBounds_toArray, List.set_cons_zero, List.set_cons_succ]
           refine AnyU.ready2 (i := 3) (j := 8) (by kernel_rfl) (AnyU.one rfl fun K hK => ?_) (AnyU.one rfl fun K hK => ?_)
           · go_simp
             obtain ⟨hX1, hbN, hszX1⟩ := laid_drew wc #[.string a.names[k]] 9
             have hE : ((wc.alloc (.cells #[.string a.names[k]] 9)).drew) = ((wc.alloc (.cells #[.string a.names[k]] 9)).drew) := rfl
             generalize hX1e : ((wc.alloc (.cells #[.string a.names[k]] 9)).drew) = X1 at hX1 hbN hszX1 ⊢
             clear hE hX1e
             refine hK.out _ _ (Until.cons (fun _ => (HBX.out.under hX1 HBX.out.lt).cell 5) (Until.cons (fun _ => (HBX.out.under hX1 HBX.out.lt).cell 6) (Until.cons (fun _ => HTB.out.under hX1 HTB.out.lt) Until.nil))) (fun hU => ?_)
             clear hK K
             try simp only [Act.put, List.getElem_toArray, List.getElem_cons_zero, List.getElem_cons_succ, List.setIfInBounds_toArray, List.set_cons_zero, List.set_cons_succ]
             refine AnyU.ready2 (i := 4) (j := 8) (by kernel_rfl) (AnyU.one rfl fun K hK => ?_) (AnyU.one rfl fun K hK => ?_)
             ·
               refine step_append_lies X1 (by rfl) _ _ _ (by rfl) (w.heap.size + 4) 9 iN _ 1 16 Try.underlying22 hiN hzN0 hzN1 hzN2 rfl (by decide) nv L.length (L.map fun p => Value.string p.1) (by rfl) (owns_under HRW.out.row1 hX1) ⟨wc.heap.size, 0, none⟩ 1 1 [.string a.names[k]] (by rfl) (by rfl) (World.news_of_block (cs := #[.string a.names[k]]) (t := 9) (fr := (0, 0)) hbN) hone1 (by decide) hml hb16 (by have := hX1.size; omega) _ rfl ?_
               intro gN cN x2 hownN hgN hatN hltN
               obtain ⟨hrS, hbS, -⟩ := grown_rest2 HRW.out hX1 hgN HBX.out HTB.out hnb hnt
               have htS := grown_box hgN (HTB.out.under hX1 HTB.out.lt) hnt
               have hx2b : w.heap.size + 4 ≤ x2.heap.size := (by have := owns_lt hownN (g := gN) rfl; omega)
               refine hK.out _ _ (Until.cons (fun h => absurd h (by decide)) (Until.cons (fun _ => hbS.cell 6) (Until.cons (fun _ => htS) Until.nil))) (fun hU => ?_)
               clear hK K
               try simp only [Act.put, List.getElem_toArray, List.getElem_cons_zero, List.getElem_cons_succ, List.setIfInBounds_toArray, List.set_cons_zero, List.set_cons_succ]
               refine AnyU.take (i := 10) (v := ?_) rfl (by kernel_rfl) (by kernel_rfl) (by kernel_rfl) (fun _ _ _ h => h) (by kernel_rfl) (by assumption) (by rfl) ?_ (fun hU => ?_)
               rotate_left 1
               · (intro wq; go_simp; try with_reducible rfl)
               simp only [Act.put, List.getElem_toArray, List.getElem_cons_zero, List.getElem_cons_succ, List.setIfInBounds_toArray, List.set_cons_zero, List.set_cons_succ]
               refine AnyU.ready1 (i := 8) (by kernel_rfl) (AnyU.one rfl fun K hK => ?_)
               go_simp
               obtain ⟨hX3, hbS3, hszX3⟩ := laid0 x2 #[.int .i64 t.kind, .string t.pkg, .int .i64 t.major, .string t.mod, .string t.name, .slice na3 t.names.length nc3, .slice sa3 t.subs.length sc3] 25
               generalize (x2.alloc (.cells #[.int .i64 t.kind, .string t.pkg, .int .i64 t.major, .string t.mod, .string t.name, .slice na3 t.names.length nc3, .slice sa3 t.subs.length sc3] 25)) = X3 at hX3 hbS3 hszX3 ⊢
               refine hK.out _ _ (Until.cons (fun h => absurd h (by decide)) (Until.cons (fun _ => (hbS.under hX3 hbS.lt).cell 6) (Until.cons (fun h => absurd h (by decide)) Until.nil))) (fun hU => ?_)
               clear hK K
               try simp only [Act.put, List.getElem_toArray, List.getElem_cons_zero, List.getElem_cons_succ, List.setIfInBounds_toArray, List.set_cons_zero, List.set_cons_succ]
               refine AnyU.ready1 (i := 9) (by kernel_rfl) (AnyU.one rfl fun K hK => ?_)
               refine step_append_lies X3 (by rfl) _ _ _ (by rfl) (w.heap.size + 4) 25 iS _ 7 112 Try.underlying23 hiS hzS0 hzS1 hzS2 rfl (by decide) sv L.length (F.flatMap (·.toList)) (by rfl) (owns_under hrS hX3) ⟨x2.heap.size, 0, none⟩ 1 1 (#[.int .i64 t.kind, .string t.pkg, .int .i64 t.major, .string t.mod, .string t.name, .slice na3 t.names.length nc3, .slice sa3 t.subs.length sc3] : Array Value).toList (by rfl) (by rfl) (World.news_of_block (cs := #[.int .i64 t.kind, .string t.pkg, .int .i64 t.major, .string t.mod, .string t.name, .slice na3 t.names.length nc3, .slice sa3 t.subs.length sc3]) (t := 25) (fr := (0, 0)) hbS3) hone7 (by decide) hml hb112 (by have := hX3.size; omega) _ rfl ?_
               intro gS cS x4 hownS hgS hatS hltS
               obtain ⟨e5, e6, f5, f6⟩ := grown_box2 hgS (hbS.under hX3 hbS.lt) hsb
               refine hK.out _ _ (Until.off (by kernel_rfl)) (fun hU => ?_)
               clear hK K
               try simp only [Act.put, List.getElem_toArray, List.getElem_cons_zero, List.getElem_cons_succ, List.setIfInBounds_toArray, List.set_cons_zero, List.set_cons_succ]
               refine AnyU.ready1 (i := 11) (by kernel_rfl) (AnyU.one rfl fun K hK => ?_)
               go_simp
               refine hK.out _ _ (Until.off (by kernel_rfl)) (fun hU => ?_)
               clear hK K
               try simp only [Act.put, List.getElem_toArray, List.getElem_cons_zero, List.getElem_cons_succ, List.setIfInBounds_toArray, List.set_cons_zero, List.set_cons_succ]
               refine AnyU.take (i := 12) (v := ?_) rfl (by kernel_rfl) (by kernel_rfl) (by kernel_rfl) (fun _ _ _ h => h) (by kernel_rfl) (by assumption) (by rfl) ?_ (fun hU => ?_)
               rotate_left 1
               · (intro wq; go_simp; try with_reducible rfl)
               simp only [Act.put, List.getElem_toArray, List.getElem_cons_zero, List.getElem_cons_succ, List.setIfInBounds_toArray, List.set_cons_zero, List.set_cons_succ]
               refine AnyU.ready1 (i := 13) (by kernel_rfl) (AnyU.one rfl fun K hK => ?_)
               go_simp
               refine hK.out _ _ (Until.off (by kernel_rfl)) (fun hU => ?_)
               clear hK K
               try simp only [Act.put, List.getElem_toArray, List.getElem_cons_zero, List.getElem_cons_succ, List.setIfInBounds_toArray, List.set_cons_zero, List.set_cons_succ]
               refine AnyU.done (by kernel_rfl) ?_
               clear hU
               have hnx := HR.out.next hB hlt hlt' HC.out HLD.out (by rw [stepB, HM.out, HRR.out]; rfl) hX1 hgN hX3 hgS hownN (hatN.imp id fun e => by rw [e]; exact hX1.size) hownS (hatS.imp id fun e => by rw [e]; exact hX3.size)
               have HNX := Lib.hid hnx
               generalize ((x4.setCell ⟨w.heap.size + 1 + 1 + 1, 5, none⟩ (.slice (some ⟨gN, 0, none⟩) (L.length + 1) cN)).setCell ⟨w.heap.size + 1 + 1 + 1, 6, none⟩ (.slice (some ⟨gS, 0, none⟩) (L.length + 1) cS)) = Wz at HNX ⊢
               clear hnx e5 e6 f5 f6 hownN hgN hatN hltN hownS hgS hatS hltS hrS hbS htS hX1 hbN hszX1 hX3 hbS3 hszX3
               clear HR HC HRW HBX HTB HM HRR hnb hnt hsb hnw hone1 hone7 hml hb16 hb112 hlb hlt3 hlb1 hlt31 HLD hx2b
               subst hVA hVB hVO
               go_wp2
               first
                 | exact ⟨⟨k + 1, _, _, _, by omega, by go_num, HNX.out⟩, by simp [intOf]; omega⟩
                 | (go_roundw
                    case rel => exact ⟨k + 1, _, _, _, by omega, by go_num, HNX.out⟩
                    case measure => simp [intOf]; omega)
             ·
               go_simp
               obtain ⟨hXb, hbN2, hbB, hszXb⟩ := laid_two hX1 hszX1 hbN #[.int .i64 t.kind, .string t.pkg, .int .i64 t.major, .string t.mod, .string t.name, .slice na3 t.names.length nc3, .slice sa3 t.subs.length sc3] 25
               generalize (X1.alloc (.cells #[.int .i64 t.kind, .string t.pkg, .int .i64 t.major, .string t.mod, .string t.name, .slice na3 t.names.length nc3, .slice sa3 t.subs.length sc3] 25)) = Xb at hXb hbN2 hbB hszXb ⊢
               refine hK.out _ _ (Until.cons (fun _ => (HBX.out.under hXb HBX.out.lt).cell 5) (Until.cons (fun _ => (HBX.out.under hXb HBX.out.lt).cell 6) (Until.cons (fun h => absurd h (by decide)) Until.nil))) (fun hU => ?_)
               clear hK K
               try simp only [Act.put, List.getElem_toArray, List.getElem_cons_zero, List.getElem_cons_succ, List.setIfInBounds_toArray, List.set_cons_zero, List.set_cons_succ]
               refine AnyU.ready1 (i := 4) (by kernel_rfl) (AnyU.one rfl fun K hK => ?_)
               refine step_append_lies Xb (by rfl) _ _ _ (by rfl) (w.heap.size + 4) 9 iN _ 1 16 Try.underlying22 hiN hzN0 hzN1 hzN2 rfl (by decide) nv L.length (L.map fun p => Value.string p.1) (by rfl) (owns_under HRW.out.row1 hXb) ⟨wc.heap.size, 0, none⟩ 1 1 [.string a.names[k]] (by rfl) (by rfl) (World.news_of_block (cs := #[.string a.names[k]]) (t := 9) (fr := (0, 0)) hbN2) hone1 (by decide) hml hb16 (by have := hXb.size; omega) _ rfl ?_
               intro gN cN x2 hownN hgN hatN hltN
               obtain ⟨hrS, hbS, -⟩ := grown_rest2 HRW.out hXb hgN HBX.out HTB.out hnb hnt
               have htS := grown_box hgN (HTB.out.under hXb HTB.out.lt) hnt
               have hx2b : w.heap.size + 4 ≤ x2.heap.size := (by have := owns_lt hownN (g := gN) rfl; omega)
               have hbS3 := (hgN.block _ (Array.getElem?_eq_some_iff.1 hbB).1 (fun e => hnw _ (by omega) e.symm)).trans hbB
               refine hK.out _ _ (Until.cons (fun h => absurd h (by decide)) (Until.cons (fun _ => hbS.cell 6) (Until.cons (fun h => absurd h (by decide)) Until.nil))) (fun hU => ?_)
               clear hK K
               try simp only [Act.put, List.getElem_toArray, List.getElem_cons_zero, List.getElem_cons_succ, List.setIfInBounds_toArray, List.set_cons_zero, List.set_cons_succ]
               refine AnyU.take (i := 10) (v := ?_) rfl (by kernel_rfl) (by kernel_rfl) (by kernel_rfl) (fun _ _ _ h => h) (by kernel_rfl) (by assumption) (by rfl) ?_ (fun hU => ?_)
               rotate_left 1
               · (intro wq; go_simp; try with_reducible rfl)
               simp only [Act.put, List.getElem_toArray, List.getElem_cons_zero, List.getElem_cons_succ, List.setIfInBounds_toArray, List.set_cons_zero, List.set_cons_succ]
               refine AnyU.ready1 (i := 9) (by kernel_rfl) (AnyU.one rfl fun K hK => ?_)
               refine step_append_lies x2 (by rfl) _ _ _ (by rfl) (w.heap.size + 4) 25 iS _ 7 112 Try.underlying23 hiS hzS0 hzS1 hzS2 rfl (by decide) sv L.length (F.flatMap (·.toList)) (by rfl) (owns_under hrS (Below.refl x2.heap.size x2)) ⟨(wc.heap.size + 1), 0, none⟩ 1 1 (#[.int .i64 t.kind, .string t.pkg, .int .i64 t.major, .string t.mod, .string t.name, .slice na3 t.names.length nc3, .slice sa3 t.subs.length sc3] : Array Value).toList (by rfl) (by rfl) (World.news_of_block (cs := #[.int .i64 t.kind, .string t.pkg, .int .i64 t.major, .string t.mod, .string t.name, .slice na3 t.names.length nc3, .slice sa3 t.subs.length sc3]) (t := 25) (fr := (0, 0)) hbS3) hone7 (by decide) hml hb112 (by have := (Below.refl x2.heap.size x2).size; omega) _ rfl ?_
               intro gS cS x4 hownS hgS hatS hltS
               obtain ⟨e5, e6, f5, f6⟩ := grown_box2 hgS (hbS.under (Below.refl x2.heap.size x2) hbS.lt) hsb
               refine hK.out _ _ (Until.off (by kernel_rfl)) (fun hU => ?_)
               clear hK K
               try simp only [Act.put, List.getElem_toArray, List.getElem_cons_zero, List.getElem_cons_succ, List.setIfInBounds_toArray, List.set_cons_zero, List.set_cons_succ]
               refine AnyU.ready1 (i := 11) (by kernel_rfl) (AnyU.one rfl fun K hK => ?_)
               go_simp
               refine hK.out _ _ (Until.off (by kernel_rfl)) (fun hU => ?_)
               clear hK K
               try simp only [Act.put, List.getElem_toArray, List.getElem_cons_zero, List.getElem_cons_succ, List.setIfInBounds_toArray, List.set_cons_zero, List.set_cons_succ]
               refine AnyU.take (i := 12) (v := ?_) rfl (by kernel_rfl) (by kernel_rfl) (by kernel_rfl) (fun _ _ _ h => h) (by kernel_rfl) (by assumption) (by rfl) ?_ (fun hU => ?_)
               rotate_left 1
               · (intro wq; go_simp; try with_reducible rfl)
               simp only [Act.put, List.getElem_toArray, List.getElem_cons_zero, List.getElem_cons_succ, List.setIfInBounds_toArray, List.set_cons_zero, List.set_cons_succ]
               refine AnyU.ready1 (i := 13) (by kernel_rfl) (AnyU.one rfl fun K hK => ?_)
               go_simp
               refine hK.out _ _ (Until.off (by kernel_rfl)) (fun hU => ?_)
               clear hK K
               try simp only [Act.put, List.getElem_toArray, List.getElem_cons_zero, List.getElem_cons_succ, List.setIfInBounds_toArray, List.set_cons_zero, List.set_cons_succ]
               refine AnyU.done (by kernel_rfl) ?_
               clear hU
               have hnx := HR.out.next hB hlt hlt' HC.out HLD.out (by rw [stepB, HM.out, HRR.out]; rfl) hXb hgN (Below.refl x2.heap.size x2) hgS hownN (hatN.imp id fun e => by rw [e]; exact hXb.size) hownS (hatS.imp id fun e => by rw [e]; exact (Below.refl x2.heap.size x2).size)
               have HNX := Lib.hid hnx
               generalize ((x4.setCell ⟨w.heap.size + 1 + 1 + 1, 5, none⟩ (.slice (some ⟨gN, 0, none⟩) (L.length + 1) cN)).setCell ⟨w.heap.size + 1 + 1 + 1, 6, none⟩ (.slice (some ⟨gS, 0, none⟩) (L.length + 1) cS)) = Wz at HNX ⊢
               clear hnx e5 e6 f5 f6 hownN hgN hatN hltN hownS hgS hatS hltS hrS hbS htS hX1 hbN hszX1 hXb hbB hszXb
               clear HR HC HRW HBX HTB HM HRR hnb hnt hsb hnw hone1 hone7 hml hb16 hb112 hlb hlt3 hlb1 hlt31 HLD hx2b
               subst hVA hVB hVO
               go_wp2
               first
                 | exact ⟨⟨k + 1, _, _, _, by omega, by go_num, HNX.out⟩, by simp [intOf]; omega⟩
                 | (go_roundw
                    case rel => exact ⟨k + 1, _, _, _, by omega, by go_num, HNX.out⟩
                    case measure => simp [intOf]; omega)
           · go_simp
             obtain ⟨hX1, hbN, hszX1⟩ := laid_drew wc #[.int .i64 t.kind, .string t.pkg, .int .i64 t.major, .string t.mod, .string t.name, .slice na3 t.names.length nc3, .slice sa3 t.subs.length sc3] 25
             generalize ((wc.alloc (.cells #[.int .i64 t.kind, .string t.pkg, .int .i64 t.major, .string t.mod, .string t.name, .slice na3 t.names.length nc3, .slice sa3 t.subs.length sc3] 25)).drew) = X1 at hX1 hbN hszX1 ⊢
             refine hK.out _ _ (Until.cons (fun _ => (HBX.out.under hX1 HBX.out.lt).cell 5) (Until.cons (fun _ => (HBX.out.under hX1 HBX.out.lt).cell 6) (Until.cons (fun h => absurd h (by decide)) Until.nil))) (fun hU => ?_)
             clear hK K
             try simp only [Act.put, List.getElem_toArray, List.getElem_cons_zero, List.getElem_cons_succ, List.setIfInBounds_toArray, List.set_cons_zero, List.set_cons_succ]
             refine AnyU.ready1 (i := 3) (by kernel_rfl) (AnyU.one rfl fun K hK => ?_)
             go_simp
             obtain ⟨hXb, hbB, hbN2, hszXb⟩ := laid_two hX1 hszX1 hbN #[.string a.names[k]] 9
             generalize (X1.alloc (.cells #[.string a.names[k]] 9)) = Xb at hXb hbN2 hbB hszXb ⊢
             refine hK.out _ _ (Until.cons (fun _ => (HBX.out.under hXb HBX.out.lt).cell 5) (Until.cons (fun _ => (HBX.out.under hXb HBX.out.lt).cell 6) (Until.cons (fun h => absurd h (by decide)) Until.nil))) (fun hU => ?_)
             clear hK K
             try simp only [Act.put, List.getElem_toArray, List.getElem_cons_zero, List.getElem_cons_succ, List.setIfInBounds_toArray, List.set_cons_zero, List.set_cons_succ]
             refine AnyU.ready1 (i := 4) (by kernel_rfl) (AnyU.one rfl fun K hK => ?_)
             refine step_append_lies Xb (by rfl) _ _ _ (by rfl) (w.heap.size + 4) 9 iN _ 1 16 Try.underlying22 hiN hzN0 hzN1 hzN2 rfl (by decide) nv L.length (L.map fun p => Value.string p.1) (by rfl) (owns_under HRW.out.row1 hXb) ⟨(wc.heap.size + 1), 0, none⟩ 1 1 [.string a.names[k]] (by rfl) (by rfl) (World.news_of_block (cs := #[.string a.names[k]]) (t := 9) (fr := (0, 0)) hbN2) hone1 (by decide) hml hb16 (by have := hXb.size; omega) _ rfl ?_
             intro gN cN x2 hownN hgN hatN hltN
             obtain ⟨hrS, hbS, -⟩ := grown_rest2 HRW.out hXb hgN HBX.out HTB.out hnb hnt
             have htS := grown_box hgN (HTB.out.under hXb HTB.out.lt) hnt
             have hx2b : w.heap.size + 4 ≤ x2.heap.size := (by have := owns_lt hownN (g := gN) rfl; omega)
             have hbS3 := (hgN.block _ (Array.getElem?_eq_some_iff.1 hbB).1 (fun e => hnw _ (by omega) e.symm)).trans hbB
             refine hK.out _ _ (Until.cons (fun h => absurd h (by decide)) (Until.cons (fun _ => hbS.cell 6) (Until.cons (fun h => absurd h (by decide)) Until.nil))) (fun hU => ?_)
             clear hK K
             try simp only [Act.put, List.getElem_toArray, List.getElem_cons_zero, List.getElem_cons_succ, List.setIfInBounds_toArray, List.set_cons_zero, List.set_cons_succ]
             refine AnyU.take (i := 10) (v := ?_) rfl (by kernel_rfl) (by kernel_rfl) (by kernel_rfl) (fun _ _ _ h => h) (by kernel_rfl) (by assumption) (by rfl) ?_ (fun hU => ?_)
             rotate_left 1
             · (intro wq; go_simp; try with_reducible rfl)
             simp only [Act.put, List.getElem_toArray, List.getElem_cons_zero, List.getElem_cons_succ, List.setIfInBounds_toArray, List.set_cons_zero, List.set_cons_succ]
             refine AnyU.ready1 (i := 9) (by kernel_rfl) (AnyU.one rfl fun K hK => ?_)
             refine step_append_lies x2 (by rfl) _ _ _ (by rfl) (w.heap.size + 4) 25 iS _ 7 112 Try.underlying23 hiS hzS0 hzS1 hzS2 rfl (by decide) sv L.length (F.flatMap (·.toList)) (by rfl) (owns_under hrS (Below.refl x2.heap.size x2)) ⟨wc.heap.size, 0, none⟩ 1 1 (#[.int .i64 t.kind, .string t.pkg, .int .i64 t.major, .string t.mod, .string t.name, .slice na3 t.names.length nc3, .slice sa3 t.subs.length sc3] : Array Value).toList (by rfl) (by rfl) (World.news_of_block (cs := #[.int .i64 t.kind, .string t.pkg, .int .i64 t.major, .string t.mod, .string t.name, .slice na3 t.names.length nc3, .slice sa3 t.subs.length sc3]) (t := 25) (fr := (0, 0)) hbS3) hone7 (by decide) hml hb112 (by have := (Below.refl x2.heap.size x2).size; omega) _ rfl ?_
             intro gS cS x4 hownS hgS hatS hltS
             obtain ⟨e5, e6, f5, f6⟩ := grown_box2 hgS (hbS.under (Below.refl x2.heap.size x2) hbS.lt) hsb
             refine hK.out _ _ (Until.off (by kernel_rfl)) (fun hU => ?_)
             clear hK K
             try simp only [Act.put, List.getElem_toArray, List.getElem_cons_zero, List.getElem_cons_succ, List.setIfInBounds_toArray, List.set_cons_zero, List.set_cons_succ]
             refine AnyU.ready1 (i := 11) (by kernel_rfl) (AnyU.one rfl fun K hK => ?_)
             go_simp
             refine hK.out _ _ (Until.off (by kernel_rfl)) (fun hU => ?_)
             clear hK K
             try simp only [Act.put, List.getElem_toArray, List.getElem_cons_zero, List.getElem_cons_succ, List.setIfInBounds_toArray, List.set_cons_zero, List.set_cons_succ]
             refine AnyU.take (i := 12) (v := ?_) rfl (by kernel_rfl) (by kernel_rfl) (by kernel_rfl) (fun _ _ _ h => h) (by kernel_rfl) (by assumption) (by rfl) ?_ (fun hU => ?_)
             rotate_left 1
             · (intro wq; go_simp; try with_reducible rfl)
             simp only [Act.put, List.getElem_toArray, List.getElem_cons_zero, List.getElem_cons_succ, List.setIfInBounds_toArray, List.set_cons_zero, List.set_cons_succ]
             refine AnyU.ready1 (i := 13) (by kernel_rfl) (AnyU.one rfl fun K hK => ?_)
             go_simp
             refine hK.out _ _ (Until.off (by kernel_rfl)) (fun hU => ?_)
             clear hK K
             try simp only [Act.put, List.getElem_toArray, List.getElem_cons_zero, List.getElem_cons_succ, List.setIfInBounds_toArray, List.set_cons_zero, List.set_cons_succ]
             refine AnyU.done (by kernel_rfl) ?_
             clear hU
             have hnx := HR.out.next hB hlt hlt' HC.out HLD.out (by rw [stepB, HM.out, HRR.out]; rfl) hXb hgN (Below.refl x2.heap.size x2) hgS hownN (hatN.imp id fun e => by rw [e]; exact hXb.size) hownS (hatS.imp id fun e => by rw [e]; exact (Below.refl x2.heap.size x2).size)
             have HNX := Lib.hid hnx
             generalize ((x4.setCell ⟨w.heap.size + 1 + 1 + 1, 5, none⟩ (.slice (some ⟨gN, 0, none⟩) (L.length + 1) cN)).setCell ⟨w.heap.size + 1 + 1 + 1, 6, none⟩ (.slice (some ⟨gS, 0, none⟩) (L.length + 1) cS)) = Wz at HNX ⊢
             clear hnx e5 e6 f5 f6 hownN hgN hatN hltN hownS hgS hatS hltS hrS hbS htS hX1 hbN hszX1 hXb hbB hszXb
             clear HR HC HRW HBX HTB HM HRR hnb hnt hsb hnw hone1 hone7 hml hb16 hb112 hlb hlt3 hlb1 hlt31 HLD hx2b
             subst hVA hVB hVO
             go_wp2
             first
               | exact ⟨⟨k + 1, _, _, _, by omega, by go_num, HNX.out⟩, by simp [intOf]; omega⟩
               | (go_roundw
                  case rel => exact ⟨k + 1, _, _, _, by omega, by go_num, HNX.out⟩
                  case measure => simp [intOf]; omega)
    · have hke : k = a.names.length := by omega
      obtain ⟨A1, m1, c1, rfl⟩ := own_form hr.rows.row1
      obtain ⟨A2, m2, c2, rfl⟩ := own_form hr.rows.row2
      have o0 := hr.out.cell 0
      have z0 := hr.res.cell 0
      have f0 := hr.res.free 0
      have o1 := hr.out.cell 1
      have z1 := hr.res.cell 1
      have f1 := hr.res.free 1
      have o2 := hr.out.cell 2
      have z2 := hr.res.cell 2
      have f2 := hr.res.free 2
      have o3 := hr.out.cell 3
      have z3 := hr.res.cell 3
      have f3 := hr.res.free 3
      have o4 := hr.out.cell 4
      have z4 := hr.res.cell 4
      have f4 := hr.res.free 4
      have o5 := hr.out.cell 5
      have z5 := hr.res.cell 5
      have f5 := hr.res.free 5
      have o6 := hr.out.cell 6
      have z6 := hr.res.cell 6
      have f6 := hr.res.free 6
      simp at o0 z0 o1 z1 o2 z2 o3 z3 o4 z4 o5 z5 o6 z6
      have hkx : ¬ (k : Int) < (a.names.length : Int) := by omega
      clear hr
      go_wp2_with fail
      have hlast := HR.out.last hke hB HF.out (by omega) (.int .i64 a.kind) (.string { data := #[] }) (.int .i64 0) (.string { data := #[] }) (.string { data := #[] }) (.slice A1 m1 c1) (.slice A2 m2 c2)
      have hblk := put7_full (.int .i64 a.kind) (.string { data := #[] }) (.int .i64 0) (.string { data := #[] }) (.string { data := #[] }) (.slice A1 m1 c1) (.slice A2 m2 c2) HR.out.res
      simp only [put7_zero] at hlast
      generalize (((((((wr.setCell ⟨w.heap.size + 1 + 1, 0, none⟩ (.int .i64 a.kind)).setCell ⟨w.heap.size + 1 + 1, 1, none⟩ (.string { data := #[] })).setCell ⟨w.heap.size + 1 + 1, 2, none⟩ (.int .i64 0)).setCell ⟨w.heap.size + 1 + 1, 3, none⟩ (.string { data := #[] })).setCell ⟨w.heap.size + 1 + 1, 4, none⟩ (.string { data := #[] })).setCell ⟨w.heap.size + 1 + 1, 5, none⟩ (.slice A1 m1 c1)).setCell ⟨w.heap.size + 1 + 1, 6, none⟩ (.slice A2 m2 c2)) = Wz at hlast hblk ⊢
      have q0 := hblk.cell 0
      have q1 := hblk.cell 1
      have q2 := hblk.cell 2
      have q3 := hblk.cell 3
      have q4 := hblk.cell 4
      have q5 := hblk.cell 5
      have q6 := hblk.cell 6
      simp at q0 q1 q2 q3 q4 q5 q6
      refine bodyPost_ret (by simp [results, Try.results61, go_sem, q0, q1, q2, q3, q4, q5, q6]; try rfl) rfl ?_
      obtain ⟨⟨cs2, rfl, ht⟩, hb⟩ := hlast
      exact ⟨⟨_, rfl, ht⟩, hb⟩
end Go.Proofs.Ytalpmjmifcofeaa
