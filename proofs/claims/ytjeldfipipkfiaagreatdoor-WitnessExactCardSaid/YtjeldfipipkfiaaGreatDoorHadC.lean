/- The contract of witness.had at a name that is there; memory: a row of interfaces. -/
import Derived.Test.YtjeldfipipkfiaaGreatDoorWitA
import Derived.Test.YtjeldfipipkfiaaGreatDoorIfN
import Derived.Deep.DeepCutAuto
import Derived.Deep.Cut
namespace Go.Proofs.YtjeldfipipkfiaaGreatDoor
open Go.RowKit
set_option linter.unusedSimpArgs false
set_option linter.unusedVariables false
theorem threeW (w : World) (C D E : Array Value) (S T U : TypeId) : Blk (((w.alloc (.cells C S)).alloc (.cells D T)).alloc (.cells E U)) w.heap.size C S ∧ Blk (((w.alloc (.cells C S)).alloc (.cells D T)).alloc (.cells E U)) (w.heap.size + 1) D T ∧ Blk (((w.alloc (.cells C S)).alloc (.cells D T)).alloc (.cells E U)) (w.heap.size + 1 + 1) E U ∧
    (((w.alloc (.cells C S)).alloc (.cells D T)).alloc (.cells E U)).heap.size = w.heap.size + 1 + 1 + 1 ∧ Below w.heap.size w (((w.alloc (.cells C S)).alloc (.cells D T)).alloc (.cells E U)) := by
  have z1 : (w.alloc (.cells C S)).heap.size = w.heap.size + 1 := by simp
  have z2 : ((w.alloc (.cells C S)).alloc (.cells D T)).heap.size = w.heap.size + 1 + 1 := by simp
  have b1 := Blk.new (w.alloc (.cells C S)) D T
  have b2 := Blk.new ((w.alloc (.cells C S)).alloc (.cells D T)) E U
  rw [z1] at b1
  rw [z2] at b2
  exact ⟨((Blk.new w C S).alloc _).alloc _, b1.alloc _, b2, by simp, (((Below.refl w.heap.size w).alloc (Nat.le_refl _) _).alloc (by simp) _).alloc (by simp; omega) _⟩
theorem cellsC {w : World} {g : Nat} {T : TypeId} {x0 x1 x2 x3 : Value} (h : Blk w g #[x0, x1, x2, x3] T) :
    w.cell? ⟨g, 0, none⟩ = some x0 ∧ w.cell? ⟨g, 1, none⟩ = some x1 ∧ w.cell? ⟨g, 2, none⟩ = some x2 ∧ w.cell? ⟨g, 3, none⟩ = some x3 := ⟨h.cell 0, h.cell 1, h.cell 2, h.cell 3⟩
theorem put5h_far {w : World} {g b : Nat} {C : Array Value} {T : TypeId} (v0 v1 v2 v3 v4 : Value) (h : Blk w b C T) (hne : b ≠ g) : Blk (((((w.setCell ⟨g, 0, none⟩ v0).setCell ⟨g, 1, none⟩ v1).setCell ⟨g, 2, none⟩ v2).setCell ⟨g, 3, none⟩ v3).setCell ⟨g, 4, none⟩ v4) b C T :=
  ((((h.far ⟨g, 0, none⟩ v0 hne).far ⟨g, 1, none⟩ v1 hne).far ⟨g, 2, none⟩ v2 hne).far ⟨g, 3, none⟩ v3 hne).far ⟨g, 4, none⟩ v4 hne
theorem put7h_full {w : World} {g : Nat} {T : TypeId} {a0 a1 a2 a3 a4 a5 a6 : Value} (v0 v1 v2 v3 v4 v5 v6 : Value) (h : Blk w g #[a0, a1, a2, a3, a4, a5, a6] T) :
    Blk (((((((w.setCell ⟨g, 0, none⟩ v0).setCell ⟨g, 1, none⟩ v1).setCell ⟨g, 2, none⟩ v2).setCell ⟨g, 3, none⟩ v3).setCell ⟨g, 4, none⟩ v4).setCell ⟨g, 5, none⟩ v5).setCell ⟨g, 6, none⟩ v6) g #[v0, v1, v2, v3, v4, v5, v6] T := by
  have := ((((((h.set 0 v0).set 1 v1).set 2 v2).set 3 v3).set 4 v4).set 5 v5).set 6 v6
  simpa using this
theorem put7h_bel {w w1 : World} {B g : Nat} (v0 v1 v2 v3 v4 v5 v6 : Value) (h : Below B w w1) (hg : B ≤ g) : Below B w (((((((w1.setCell ⟨g, 0, none⟩ v0).setCell ⟨g, 1, none⟩ v1).setCell ⟨g, 2, none⟩ v2).setCell ⟨g, 3, none⟩ v3).setCell ⟨g, 4, none⟩ v4).setCell ⟨g, 5, none⟩ v5).setCell ⟨g, 6, none⟩ v6) :=
  ((((((h.setCell (p := ⟨g, 0, none⟩) hg v0).setCell (p := ⟨g, 1, none⟩) hg v1).setCell (p := ⟨g, 2, none⟩) hg v2).setCell (p := ⟨g, 3, none⟩) hg v3).setCell (p := ⟨g, 4, none⟩) hg v4).setCell (p := ⟨g, 5, none⟩) hg v5).setCell (p := ⟨g, 6, none⟩) hg v6
theorem put7h_far {w : World} {g b : Nat} {C : Array Value} {T : TypeId} (v0 v1 v2 v3 v4 v5 v6 : Value) (h : Blk w b C T) (hne : b ≠ g) : Blk (((((((w.setCell ⟨g, 0, none⟩ v0).setCell ⟨g, 1, none⟩ v1).setCell ⟨g, 2, none⟩ v2).setCell ⟨g, 3, none⟩ v3).setCell ⟨g, 4, none⟩ v4).setCell ⟨g, 5, none⟩ v5).setCell ⟨g, 6, none⟩ v6) b C T :=
  ((((((h.far ⟨g, 0, none⟩ v0 hne).far ⟨g, 1, none⟩ v1 hne).far ⟨g, 2, none⟩ v2 hne).far ⟨g, 3, none⟩ v3 hne).far ⟨g, 4, none⟩ v4 hne).far ⟨g, 5, none⟩ v5 hne).far ⟨g, 6, none⟩ v6 hne
set_option maxRecDepth 100000 in
set_option maxHeartbeats 40000000 in
theorem had_c (A : Option Addr) (c B : Nat) (a : List If) (ck : Int) (cm cn : ByteArray) (co : Bool) (x : If) (n : Nm) (w : World) (h1 : IfsAt w B A a) (hB : B ≤ w.heap.size) (hl : a.length ≤ 1000) (hfew : a.all fewX = true) (hx : firstIface a cm = some x) (hn : firstNamed (selF x co) cn = some n) :
    Calls Tryz.prog 89 #[.slice A a.length c, .agg #[.int .i64 ck, .string cm, .string cn, .bool co]] w fun e w' => (∃ ta tc va vc na nc sa sc, e = .returned (.tuple #[.agg (ifCells x ta tc va vc), .agg (tyCells n.ty na nc sa sc)]) ∧ TyC w' B n.ty (tyCells n.ty na nc sa sc)) ∧ Below w.heap.size w w' := by
  have H1 := Lib.hid h1
  have HX := Lib.hid hx
  have HN := Lib.hid hn
  have HFEW := Lib.hid hfew
  clear h1 hx hn hfew
  go_enter Tryz.func89, Tryz.ntmps89
  go_upto_region 1 with fail
  obtain ⟨b1, b2, b3, hz, hbel⟩ := threeW w #[.int .i64 ck, .string cm, .string cn, .bool co] #[.string { data := #[] }, .int .i64 0, .string { data := #[] }, .slice none 0 0, .slice none 0 0] #[.int .i64 0, .string { data := #[] }, .int .i64 0, .string { data := #[] }, .string { data := #[] }, .slice none 0 0, .slice none 0 0] 132 51 29
  generalize (((w.alloc (.cells #[.int .i64 ck, .string cm, .string cn, .bool co] 132)).alloc (.cells #[.string { data := #[] }, .int .i64 0, .string { data := #[] }, .slice none 0 0, .slice none 0 0] 51)).alloc (.cells #[.int .i64 0, .string { data := #[] }, .int .i64 0, .string { data := #[] }, .string { data := #[] }, .slice none 0 0, .slice none 0 0] 29)) = W at b1 b2 b3 hz hbel ⊢
  have B1 := Lib.hid b1
  have B2 := Lib.hid b2
  have B3 := Lib.hid b3
  have BEL := Lib.hid hbel
  have HZ := Lib.hid hz
  have HW1 := Lib.hid (H1.out.under (hbel.mono hB))
  have hBW : B ≤ W.heap.size := Nat.le_trans hB hbel.size
  clear b1 b2 b3 hz hbel H1
  go_wp2_with fail
  go_loopw [12] (fun i wk => ∃ k : Nat, i = .int .i64 k ∧ k ≤ a.length ∧ Below W.heap.size W wk ∧ ∀ i (h : i < a.length), i < k → (a[i].mod.toList == cm.toList) = false) (fun i _ => a.length - (intOf i).toNat)
  case atStart => exact ⟨0, rfl, Nat.zero_le _, Below.refl _ _, fun i _ hi => absurd hi (by omega)⟩
  case round =>
    rename World => wk
    obtain ⟨k, rfl, hk, hb, hall⟩ := hrel
    have HB := Lib.hid hb
    have HA := Lib.hid hall
    clear hb hall
    by_cases hlt : k < a.length
    rotate_left
    · exfalso
      have := find_none' (p := fun x => x.mod.toList == cm.toList) (l := a) (fun i hi => HA.out i hi (by omega))
      have h2 := HX.out
      rw [firstIface, this] at h2
      cases h2
    have hltI : (k : Int) < (a.length : Int) := by omega
    obtain ⟨y, hy⟩ : ∃ y, a[k] = y := ⟨_, rfl⟩
    obtain ⟨-, b, o, ta, tc, va, vc, rfl, hbB, hT, hV, htc, hvc, c0, c1, c2, c3, c4⟩ := (HW1.out.under (HB.out.mono hBW)).elem hlt hy
    have hbw : b < wk.heap.size := by have := HB.out.size; omega
    have hBk : B ≤ wk.heap.size := Nat.le_trans hBW HB.out.size
    have hle : (selF y co).length ≤ 200 := by
      have := List.all_eq_true.1 HFEW.out y (by rw [← hy]; exact List.getElem_mem hlt)
      simp only [fewX, Bool.and_eq_true, decide_eq_true_eq] at this
      rw [selF]; split
      · exact this.1
      · exact this.2.1
    have HT := Lib.hid hT
    have HV := Lib.hid hV
    have HY := Lib.hid hy
    have HLE := Lib.hid hle
    clear hy hT hV hle
    go_upto_region 4 with fail
    have b7 := Blk.new wk #[.string y.pkg, .int .i64 y.major, .string y.mod, .slice ta y.types.length tc, .slice va y.vals.length vc] 51
    have hb4 := HB.out.alloc HB.out.size (.cells #[.string y.pkg, .int .i64 y.major, .string y.mod, .slice ta y.types.length tc, .slice va y.vals.length vc] 51)
    have hT4 := HT.out.alloc hBk (.cells #[.string y.pkg, .int .i64 y.major, .string y.mod, .slice ta y.types.length tc, .slice va y.vals.length vc] 51)
    have hV4 := HV.out.alloc hBk (.cells #[.string y.pkg, .int .i64 y.major, .string y.mod, .slice ta y.types.length tc, .slice va y.vals.length vc] 51)
    have hb4k : Below wk.heap.size wk (wk.alloc (.cells #[.string y.pkg, .int .i64 y.major, .string y.mod, .slice ta y.types.length tc, .slice va y.vals.length vc] 51)) := (Below.refl _ _).alloc (Nat.le_refl _) _
    generalize (wk.alloc (.cells #[.string y.pkg, .int .i64 y.major, .string y.mod, .slice ta y.types.length tc, .slice va y.vals.length vc] 51)) = w4 at b7 hb4 hT4 hV4 hb4k ⊢
    generalize wk.heap.size = g7 at b7 hb4k ⊢
    have B7 := Lib.hid b7
    have HB4 := Lib.hid hb4
    have HT4 := Lib.hid hT4
    have HV4 := Lib.hid hV4
    have hB4 : B ≤ w4.heap.size := Nat.le_trans hBW hb4.size
    clear hT4 hV4 HT HV hb4k c0 c1 c2 c3 c4 hbw hBk
    obtain ⟨k0, k1, k2, k3, k4⟩ := cellsN5 b7
    have l7 := b7.lt
    obtain ⟨p0, p1, p2, p3⟩ := cellsC (B1.out.under hb4 B1.out.lt)
    have lp := (B1.out.under hb4 B1.out.lt).lt
    clear b7 hb4
    go_upto_region 5 with fail
    go_upto_if 19 with fail
    go_cut [8] (fun s8 wx => ∃ oa oc, s8 = .slice oa (selF y co).length oc ∧ NmsAt w4 B oa (selF y co) ∧ wx = w4)
    case first =>
      cases co
      · go_wp2_with fail
        go_meet
        exact ⟨va, vc, rfl, HV4.out, rfl⟩
      · go_wp2_with fail
        go_meet
        exact ⟨ta, tc, rfl, HT4.out, rfl⟩
    case rest =>
    obtain ⟨oa, oc, rfl, hO, rfl⟩ := hcut
    have HO := Lib.hid hO
    clear hO
    have HIX := Lib.hid (idxNamed_c oa oc B (selF y co) cn w.heap.size _ HO.out hB4 (by have := HLE.out; omega) p2 lp)
    clear k0 k1 k2 k3 k4 l7 p0 p1 p2 p3 lp
    go_upto_region 8 with (go_at_call 67; refine HIX.out.mono ?_; rintro e w5 ⟨rfl, hb⟩; have HB5 := Lib.hid (HB4.out.trans (hb.mono HB4.out.size)); have B75 := Lib.hid (B7.out.under hb B7.out.lt); have HO5 := Lib.hid (HO.out.under (hb.mono hB4)); clear hb)
    have hB5 : B ≤ w5.heap.size := Nat.le_trans hBW HB5.out.size
    obtain ⟨k0, k1, k2, k3, k4⟩ := cellsN5 B75.out
    have l7 := B75.out.lt
    obtain ⟨p0, p1, p2, p3⟩ := cellsC (B1.out.under HB5.out B1.out.lt)
    have lp := (B1.out.under HB5.out B1.out.lt).lt
    obtain ⟨t, ht⟩ : ∃ t, (y.mod.toList == cm.toList) = t := ⟨_, rfl⟩
    have HMT := Lib.hid ht
    clear HIX HO HB4 B7 HT4 HV4
    cases t
    · go_wp2_with fail
      exact ⟨⟨k + 1, by go_num, by omega, HB5.out, fun i hi hik => by
        by_cases e : i = k
        · subst e; rw [HY.out]; exact HMT.out
        · exact HA.out i hi (by omega)⟩, by simp [intOf]; omega⟩
    have hyx : y = x := by
      have h2 := find_first (p := fun x => x.mod.toList == cm.toList) hlt (fun i hi => HA.out i (by omega) hi) (by rw [HY.out]; exact HMT.out)
      have h3 := HX.out
      rw [firstIface, h2, HY.out] at h3
      exact Option.some.inj h3
    subst hyx
    obtain ⟨j, hj, hjn, ej⟩ := ofN_some HN.out
    rw [ej]
    obtain ⟨-, bn, pn, na, nc, sa, sc, rfl, hbn, htn, -, e1, e2, e3, e4, e5, e6, e7⟩ := HO5.out.elem hj hjn
    have hbn5 : bn < w5.heap.size := by omega
    have hjI : (j : Int) < ((selF y co).length : Int) := by omega
    have hj0 : (0 : Int) ≤ (j : Int) := by omega
    have hge : ((j : Int) ≥ 0) := hj0
    have HTN := Lib.hid htn
    clear htn
    go_upto_region 9 with fail
    clear ht k0 k1 k2 k3 k4 l7 p0 p1 p2 p3 lp
    have D2 := Lib.hid (B2.out.under HB5.out B2.out.lt)
    have D3 := Lib.hid (B3.out.under HB5.out B3.out.lt)
    have q0 := D2.out.cell 0
    have q1 := D2.out.cell 1
    have q2 := D2.out.cell 2
    have q3 := D2.out.cell 3
    have q4 := D2.out.cell 4
    have f0 := D2.out.free 0
    have f1 := D2.out.free 1
    have f2 := D2.out.free 2
    have f3 := D2.out.free 3
    have f4 := D2.out.free 4
    have s0 := D3.out.cell 0
    have s1 := D3.out.cell 1
    have s2 := D3.out.cell 2
    have s3 := D3.out.cell 3
    have s4 := D3.out.cell 4
    have s5 := D3.out.cell 5
    have s6 := D3.out.cell 6
    have g0 := D3.out.free 0
    have g1 := D3.out.free 1
    have g2 := D3.out.free 2
    have g3 := D3.out.free 3
    have g4 := D3.out.free 4
    have g5 := D3.out.free 5
    have g6 := D3.out.free 6
    have ld2 := D2.out.lt
    have ld3 := D3.out.lt
    simp at q0 q1 q2 q3 q4 s0 s1 s2 s3 s4 s5 s6
    refine wp_region_until [(6, fun w' => Blk w' g7 #[.string y.pkg, .int .i64 y.major, .string y.mod, .slice ta y.types.length tc, .slice va y.vals.length vc] 51), (7, fun w' => w'.cell? ⟨bn, pn + j * 8 + 1, none⟩ = some (.int .i64 n.ty.kind) ∧ w'.cell? ⟨bn, pn + j * 8 + 2, none⟩ = some (.string n.ty.pkg) ∧ w'.cell? ⟨bn, pn + j * 8 + 3, none⟩ = some (.int .i64 n.ty.major) ∧ w'.cell? ⟨bn, pn + j * 8 + 4, none⟩ = some (.string n.ty.mod) ∧ w'.cell? ⟨bn, pn + j * 8 + 5, none⟩ = some (.string n.ty.name) ∧ w'.cell? ⟨bn, pn + j * 8 + 6, none⟩ = some (.slice na n.ty.names.length nc) ∧ w'.cell? ⟨bn, pn + j * 8 + 7, none⟩ = some (.slice sa n.ty.subs.length sc))] (by kernel_rfl) (Until.cons (fun _ => B75.out.drew) (Until.cons (fun _ => ⟨e1, e2, e3, e4, e5, e6, e7⟩) Until.nil)) (fun hU => ?_)
    refine AnyU.loadc (i := 0) (d := 6) [6] (Si := fun w' => Blk w' g7 #[.string y.pkg, .int .i64 y.major, .string y.mod, .slice ta y.types.length tc, .slice va y.vals.length vc] 51) (v := ?_) rfl (by kernel_rfl) (by kernel_rfl) (by kernel_rfl) (fun _ _ _ h => h) (by kernel_rfl) (by assumption) (by kernel_rfl) rfl (by simp) (by rfl) ?_ (fun hV => ?_)
    rotate_left 1
    · (intro wq hq; obtain ⟨u0, u1, u2, u3, u4⟩ := cellsN5 hq; go_simp; try with_reducible rfl)
    clear hU; have hU := hV; clear hV
    try simp only [Act.put, aput]
    refine AnyU.take (i := 1) (v := ?_) rfl (by kernel_rfl) (by kernel_rfl) (by kernel_rfl) (fun _ _ _ h => h) (by kernel_rfl) (by assumption) (by rfl) ?_ (fun hV => ?_)
    rotate_left 1
    · (intro wq; go_simp; try with_reducible rfl)
    clear hU; have hU := hV; clear hV
    try simp only [Act.put, aput]
    refine AnyU.take (i := 2) (v := ?_) rfl (by kernel_rfl) (by kernel_rfl) (by kernel_rfl) (fun _ _ _ h => h) (by kernel_rfl) (by assumption) (by rfl) ?_ (fun hV => ?_)
    rotate_left 1
    · (intro wq; go_simp; try with_reducible rfl)
    clear hU; have hU := hV; clear hV
    try simp only [Act.put, aput]
    refine AnyU.take (i := 3) (v := ?_) rfl (by kernel_rfl) (by kernel_rfl) (by kernel_rfl) (fun _ _ _ h => h) (by kernel_rfl) (by assumption) (by rfl) ?_ (fun hV => ?_)
    rotate_left 1
    · (intro wq; go_simp; try with_reducible rfl)
    clear hU; have hU := hV; clear hV
    try simp only [Act.put, aput]
    refine AnyU.take (i := 4) (v := ?_) rfl (by kernel_rfl) (by kernel_rfl) (by kernel_rfl) (fun _ _ _ h => h) (by kernel_rfl) (by assumption) (by rfl) ?_ (fun hV => ?_)
    rotate_left 1
    · (intro wq; go_simp; try with_reducible rfl)
    clear hU; have hU := hV; clear hV
    try simp only [Act.put, aput]
    refine AnyU.loadc (i := 5) (d := 7) [7] (Si := fun w' => w'.cell? ⟨bn, pn + j * 8 + 1, none⟩ = some (.int .i64 n.ty.kind) ∧ w'.cell? ⟨bn, pn + j * 8 + 2, none⟩ = some (.string n.ty.pkg) ∧ w'.cell? ⟨bn, pn + j * 8 + 3, none⟩ = some (.int .i64 n.ty.major) ∧ w'.cell? ⟨bn, pn + j * 8 + 4, none⟩ = some (.string n.ty.mod) ∧ w'.cell? ⟨bn, pn + j * 8 + 5, none⟩ = some (.string n.ty.name) ∧ w'.cell? ⟨bn, pn + j * 8 + 6, none⟩ = some (.slice na n.ty.names.length nc) ∧ w'.cell? ⟨bn, pn + j * 8 + 7, none⟩ = some (.slice sa n.ty.subs.length sc)) (v := ?_) rfl (by kernel_rfl) (by kernel_rfl) (by kernel_rfl) (fun _ _ _ h => h) (by kernel_rfl) (by assumption) (by kernel_rfl) rfl (by simp) (by rfl) ?_ (fun hV => ?_)
    rotate_left 1
    · (intro wq hq; obtain ⟨u1, u2, u3, u4, u5, u6, u7⟩ := hq; go_simp; try with_reducible rfl)
    clear hU; have hU := hV; clear hV
    try simp only [Act.put, aput]
    refine AnyU.ready1 (i := 6) (by kernel_rfl) (AnyU.one rfl fun K hK => ?_)
    go_simp
    have r1 := put5_full (.string y.pkg) (.int .i64 y.major) (.string y.mod) (.slice ta y.types.length tc) (.slice va y.vals.length vc) D2.out
    have r2 := put5_bel (.string y.pkg) (.int .i64 y.major) (.string y.mod) (.slice ta y.types.length tc) (.slice va y.vals.length vc) (Below.refl w.heap.size w5) (Nat.le_succ w.heap.size)
    have r3 := put5h_far (.string y.pkg) (.int .i64 y.major) (.string y.mod) (.slice ta y.types.length tc) (.slice va y.vals.length vc) D3.out (show w.heap.size + 1 + 1 ≠ w.heap.size + 1 by omega)
    generalize hX4 : ((((((w5.setCell ⟨w.heap.size + 1, 0, none⟩ (.string y.pkg)).setCell ⟨w.heap.size + 1, 1, none⟩ (.int .i64 y.major)).setCell ⟨w.heap.size + 1, 2, none⟩ (.string y.mod)).setCell ⟨w.heap.size + 1, 3, none⟩ (.slice ta y.types.length tc)).setCell ⟨w.heap.size + 1, 4, none⟩ (.slice va y.vals.length vc)).drew) = X4
    have r1 : Blk X4 (w.heap.size + 1) #[.string y.pkg, .int .i64 y.major, .string y.mod, .slice ta y.types.length tc, .slice va y.vals.length vc] 51 := by rw [← hX4]; exact r1
    have r2 : Below w.heap.size w5 X4 := by rw [← hX4]; exact r2.drew
    have r3 : Blk X4 (w.heap.size + 1 + 1) #[.int .i64 0, .string { data := #[] }, .int .i64 0, .string { data := #[] }, .string { data := #[] }, .slice none 0 0, .slice none 0 0] 29 := by rw [← hX4]; exact r3
    clear hX4
    have hbnw : bn < w.heap.size := by omega
    have e1 := (r2.cell (p := ⟨bn, _, none⟩) hbnw).trans e1
    have e2 := (r2.cell (p := ⟨bn, _, none⟩) hbnw).trans e2
    have e3 := (r2.cell (p := ⟨bn, _, none⟩) hbnw).trans e3
    have e4 := (r2.cell (p := ⟨bn, _, none⟩) hbnw).trans e4
    have e5 := (r2.cell (p := ⟨bn, _, none⟩) hbnw).trans e5
    have e6 := (r2.cell (p := ⟨bn, _, none⟩) hbnw).trans e6
    have e7 := (r2.cell (p := ⟨bn, _, none⟩) hbnw).trans e7
    have D3 := Lib.hid r3
    clear q0 q1 q2 q3 q4 s0 s1 s2 s3 s4 s5 s6 f0 f1 f2 f3 f4 g0 g1 g2 g3 g4 g5 g6 ld2 ld3
    have s0 := D3.out.cell 0
    have g0 := D3.out.free 0
    have s1 := D3.out.cell 1
    have g1 := D3.out.free 1
    have s2 := D3.out.cell 2
    have g2 := D3.out.free 2
    have s3 := D3.out.cell 3
    have g3 := D3.out.free 3
    have s4 := D3.out.cell 4
    have g4 := D3.out.free 4
    have s5 := D3.out.cell 5
    have g5 := D3.out.free 5
    have s6 := D3.out.cell 6
    have g6 := D3.out.free 6
    simp at s0 s1 s2 s3 s4 s5 s6
    have ld3 := D3.out.lt
    refine hK.out _ _ (Until.cons (fun h => absurd h (by decide)) (Until.cons (fun _ => ⟨e1, e2, e3, e4, e5, e6, e7⟩) Until.nil)) (fun hV => ?_)
    clear hK K
    clear hU; have hU := hV; clear hV
    try simp only [Act.put, aput]
    refine AnyU.ready1 (i := 7) (by kernel_rfl) (AnyU.one rfl fun K hK => ?_)
    go_simp
    have t1 := put7h_full (.int .i64 n.ty.kind) (.string n.ty.pkg) (.int .i64 n.ty.major) (.string n.ty.mod) (.string n.ty.name) (.slice na n.ty.names.length nc) (.slice sa n.ty.subs.length sc) D3.out
    have t2 := put7h_bel (.int .i64 n.ty.kind) (.string n.ty.pkg) (.int .i64 n.ty.major) (.string n.ty.mod) (.string n.ty.name) (.slice na n.ty.names.length nc) (.slice sa n.ty.subs.length sc) r2 (show w.heap.size ≤ w.heap.size + 1 + 1 by omega)
    have t3 := put7h_far (.int .i64 n.ty.kind) (.string n.ty.pkg) (.int .i64 n.ty.major) (.string n.ty.mod) (.string n.ty.name) (.slice na n.ty.names.length nc) (.slice sa n.ty.subs.length sc) r1 (show w.heap.size + 1 ≠ w.heap.size + 1 + 1 by omega)
    generalize (((((((X4.setCell ⟨w.heap.size + 1 + 1, 0, none⟩ (.int .i64 n.ty.kind)).setCell ⟨w.heap.size + 1 + 1, 1, none⟩ (.string n.ty.pkg)).setCell ⟨w.heap.size + 1 + 1, 2, none⟩ (.int .i64 n.ty.major)).setCell ⟨w.heap.size + 1 + 1, 3, none⟩ (.string n.ty.mod)).setCell ⟨w.heap.size + 1 + 1, 4, none⟩ (.string n.ty.name)).setCell ⟨w.heap.size + 1 + 1, 5, none⟩ (.slice na n.ty.names.length nc)).setCell ⟨w.heap.size + 1 + 1, 6, none⟩ (.slice sa n.ty.subs.length sc)) = X5 at t1 t2 t3 ⊢
    refine hK.out _ _ (Until.off (by kernel_rfl)) (fun hV => ?_)
    clear hK K
    clear hU; have hU := hV; clear hV
    try simp only [Act.put, aput]
    refine AnyU.done (by kernel_rfl) ?_
    clear hU
    clear s0 s1 s2 s3 s4 s5 s6 g0 g1 g2 g3 g4 g5 g6 ld3 e1 e2 e3 e4 e5 e6 e7
    have T1 := Lib.hid t1
    have T2 := Lib.hid t2
    have T3 := Lib.hid t3
    clear t1 t2 t3 r1 r2 r3
    go_wp2_with fail
    obtain ⟨r0, r1, r2, r3, r4⟩ := cellsN5 T3.out
    have u0 := T1.out.cell 0
    have u1 := T1.out.cell 1
    have u2 := T1.out.cell 2
    have u3 := T1.out.cell 3
    have u4 := T1.out.cell 4
    have u5 := T1.out.cell 5
    have u6 := T1.out.cell 6
    simp at u0 u1 u2 u3 u4 u5 u6
    refine bodyPost_ret (by simp [results, Tryz.results89, go_sem, r0, r1, r2, r3, r4, u0, u1, u2, u3, u4, u5, u6]; try rfl) rfl ?_
    exact ⟨⟨ta, tc, va, vc, na, nc, sa, sc, rfl, HTN.out.under (T2.out.mono hB)⟩, (BEL.out.trans (HB5.out.mono BEL.out.size)).trans T2.out⟩
end Go.Proofs.YtjeldfipipkfiaaGreatDoor
