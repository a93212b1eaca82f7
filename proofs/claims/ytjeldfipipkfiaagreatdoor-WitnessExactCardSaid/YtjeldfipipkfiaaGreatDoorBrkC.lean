/- The contract of witness.Breaks; memory: two rows of interfaces that are few. -/
import Derived.Test.YtjeldfipipkfiaaGreatDoorHadC
import Derived.Test.YtjeldfipipkfiaaGreatDoorCopied
import Derived.Test.YtjeldfipipkfiaaGreatDoorChgV
namespace Go.Proofs.YtjeldfipipkfiaaGreatDoor
open Go.RowKit
set_option linter.unusedSimpArgs false
set_option linter.unusedVariables false
def UAt (w : World) (v : Value) : Option Brk → Prop
  | none => v = .agg #[.slice none 0 0, .slice none 0 0]
  | some u => ∃ b1 b2 na nc sa sc, v = .agg #[.slice (some ⟨b1, 0, none⟩) 1 1, .slice (some ⟨b2, 0, none⟩) 1 1] ∧ Blk w b1 #[.string u.x.pkg, .int .i64 u.x.major, .string u.x.mod, .string { data := #[109] }] 55 ∧
      Blk w b2 #[.int .i64 (if u.c.ofType = true then 2 else 1), .string { data := #[109] }, .string u.c.name, .int .i64 u.t.kind, .string u.t.pkg, .int .i64 u.t.major, .string u.t.mod, .string u.t.name, .slice na u.t.names.length nc, .slice sa u.t.subs.length sc] 138 ∧ TyC w w.heap.size u.t (tyCells u.t na nc sa sc)
theorem UAt.under {w w' : World} {v : Value} {u : Option Brk} (h : UAt w v u) (hb : Below w.heap.size w w') : UAt w' v u := by
  cases u with
  | none => exact h
  | some u =>
    obtain ⟨b1, b2, na, nc, sa, sc, h1, h2, h3, h4⟩ := h
    exact ⟨b1, b2, na, nc, sa, sc, h1, h2.under hb h2.lt, h3.under hb h3.lt, (h4.under hb).mono hb.size⟩
theorem neq_errnilW (w : World) : (binOp BinOp.neq 34 (.iface 70 (.int .i64 1)) .nilIface).run Tryz.prog w = .ok (.bool true) w := by kernel_rfl
theorem put10h_full {w : World} {g : Nat} {T : TypeId} {a0 a1 a2 a3 a4 a5 a6 a7 a8 a9 : Value} (v0 v1 v2 v3 v4 v5 v6 v7 v8 v9 : Value) (h : Blk w g #[a0, a1, a2, a3, a4, a5, a6, a7, a8, a9] T) : Blk ((((((((((w.setCell ⟨g, 0, none⟩ v0).setCell ⟨g, 1, none⟩ v1).setCell ⟨g, 2, none⟩ v2).setCell ⟨g, 3, none⟩ v3).setCell ⟨g, 4, none⟩ v4).setCell ⟨g, 5, none⟩ v5).setCell ⟨g, 6, none⟩ v6).setCell ⟨g, 7, none⟩ v7).setCell ⟨g, 8, none⟩ v8).setCell ⟨g, 9, none⟩ v9) g #[v0, v1, v2, v3, v4, v5, v6, v7, v8, v9] T := by
  have := ((((((((((h.set 0 v0).set 1 v1).set 2 v2).set 3 v3).set 4 v4).set 5 v5).set 6 v6).set 7 v7).set 8 v8).set 9 v9)
  simpa using this
theorem put10h_bel {w w1 : World} {B g : Nat} (v0 v1 v2 v3 v4 v5 v6 v7 v8 v9 : Value) (h : Below B w w1) (hg : B ≤ g) : Below B w ((((((((((w1.setCell ⟨g, 0, none⟩ v0).setCell ⟨g, 1, none⟩ v1).setCell ⟨g, 2, none⟩ v2).setCell ⟨g, 3, none⟩ v3).setCell ⟨g, 4, none⟩ v4).setCell ⟨g, 5, none⟩ v5).setCell ⟨g, 6, none⟩ v6).setCell ⟨g, 7, none⟩ v7).setCell ⟨g, 8, none⟩ v8).setCell ⟨g, 9, none⟩ v9) :=
  ((((((((((h.setCell (p := ⟨g, 0, none⟩) hg v0).setCell (p := ⟨g, 1, none⟩) hg v1).setCell (p := ⟨g, 2, none⟩) hg v2).setCell (p := ⟨g, 3, none⟩) hg v3).setCell (p := ⟨g, 4, none⟩) hg v4).setCell (p := ⟨g, 5, none⟩) hg v5).setCell (p := ⟨g, 6, none⟩) hg v6).setCell (p := ⟨g, 7, none⟩) hg v7).setCell (p := ⟨g, 8, none⟩) hg v8).setCell (p := ⟨g, 9, none⟩) hg v9)
theorem set_heap (w : World) (g o : Nat) (v : Value) {b : Nat} (h : b ≠ g) : (w.setCell ⟨g, o, none⟩ v).heap[b]? = w.heap[b]? := Below.heap_setCell w ⟨g, o, none⟩ v b h
theorem set_size (w : World) (g o : Nat) (v : Value) : (w.setCell ⟨g, o, none⟩ v).heap.size = w.heap.size := by simp [World.setCell]
theorem put10h_heap (v0 v1 v2 v3 v4 v5 v6 v7 v8 v9 : Value) {w : World} {g b : Nat} (h : b ≠ g) : ((((((((((w.setCell ⟨g, 0, none⟩ v0).setCell ⟨g, 1, none⟩ v1).setCell ⟨g, 2, none⟩ v2).setCell ⟨g, 3, none⟩ v3).setCell ⟨g, 4, none⟩ v4).setCell ⟨g, 5, none⟩ v5).setCell ⟨g, 6, none⟩ v6).setCell ⟨g, 7, none⟩ v7).setCell ⟨g, 8, none⟩ v8).setCell ⟨g, 9, none⟩ v9).heap[b]? = w.heap[b]? := by
  rw [set_heap _ _ _ _ h, set_heap _ _ _ _ h, set_heap _ _ _ _ h, set_heap _ _ _ _ h, set_heap _ _ _ _ h, set_heap _ _ _ _ h, set_heap _ _ _ _ h, set_heap _ _ _ _ h, set_heap _ _ _ _ h, set_heap _ _ _ _ h]
theorem put10h_size (v0 v1 v2 v3 v4 v5 v6 v7 v8 v9 : Value) {w : World} {g : Nat} : ((((((((((w.setCell ⟨g, 0, none⟩ v0).setCell ⟨g, 1, none⟩ v1).setCell ⟨g, 2, none⟩ v2).setCell ⟨g, 3, none⟩ v3).setCell ⟨g, 4, none⟩ v4).setCell ⟨g, 5, none⟩ v5).setCell ⟨g, 6, none⟩ v6).setCell ⟨g, 7, none⟩ v7).setCell ⟨g, 8, none⟩ v8).setCell ⟨g, 9, none⟩ v9).heap.size = w.heap.size := by
  rw [set_size, set_size, set_size, set_size, set_size, set_size, set_size, set_size, set_size, set_size]
theorem twoW (w : World) (C D : Array Value) (S T : TypeId) : Blk ((w.alloc (.cells C S)).alloc (.cells D T)) w.heap.size C S ∧ Blk ((w.alloc (.cells C S)).alloc (.cells D T)) (w.heap.size + 1) D T ∧
    ((w.alloc (.cells C S)).alloc (.cells D T)).heap.size = w.heap.size + 1 + 1 ∧ Below w.heap.size w ((w.alloc (.cells C S)).alloc (.cells D T)) := by
  have z1 : (w.alloc (.cells C S)).heap.size = w.heap.size + 1 := by simp
  have b1 := Blk.new (w.alloc (.cells C S)) D T
  rw [z1] at b1
  exact ⟨(Blk.new w C S).alloc _, b1, by simp, ((Below.refl w.heap.size w).alloc (Nat.le_refl _) _).alloc (by simp) _⟩
theorem bigI_some {l : List Chg} {c : Chg} (h : bigC l = some c) : ∃ k : Nat, ∃ hk : k < l.length, l[k] = c ∧ bigI l = (k : Nat) := by
  obtain ⟨hx, i, hi, he, hall⟩ := List.find?_eq_some_iff_getElem.1 h
  refine ⟨i, hi, he, bigI_hit hi (fun j hj hji => ?_) (by rw [he]; exact hx)⟩
  have := hall j hji
  simpa using this
theorem bigI_none {l : List Chg} (h : bigC l = none) : bigI l = -1 := by
  refine bigI_miss fun i hi => ?_
  have := List.find?_eq_none.1 h l[i] (List.getElem_mem hi)
  simpa using this
set_option maxRecDepth 100000 in
set_option maxHeartbeats 8000000 in
theorem brkNo_c (A A' : Option Addr) (c c' B : Nat) (a b : List If) (w : World) (h1 : IfsAt w B A a) (h2 : IfsAt w B A' b) (hB : B ≤ w.heap.size) (hl : a.length ≤ 1000) (hl' : b.length ≤ 1000) (hf : fairB a b = false) :
    Calls Tryz.prog 43 #[.slice A a.length c, .slice A' b.length c'] w fun e w' => e = .returned (.tuple #[.agg #[.slice none 0 0, .slice none 0 0], .bool false, .iface 70 (.int .i64 1)]) ∧ Below w.heap.size w w' := by
  have hW := Blk.new w #[.slice none 0 0, .slice none 0 0] 82
  have hbW : Below w.heap.size w (w.alloc (.cells #[.slice none 0 0, .slice none 0 0] 82)) := (Below.refl _ _).alloc (Nat.le_refl _) _
  have HC := Lib.hid (unfair_c A A' c c' B a b (w.alloc (.cells #[.slice none 0 0, .slice none 0 0] 82)) (h1.alloc hB _) (h2.alloc hB _) (Nat.le_trans hB hbW.size) hl hl' hf)
  have ne := neq_errnilW
  clear h1 h2 hf
  have HW := Lib.hid hW
  have HB := Lib.hid hbW
  clear hW hbW
  go_enter Tryz.func43, Tryz.ntmps43
  go_upto_region 2 with (go_at_call 86; refine HC.out.mono ?_; rintro e w1 ⟨rfl, hb⟩; have B1 := Lib.hid (HB.out.trans (hb.mono HB.out.size)); have D1 := Lib.hid (HW.out.under hb HW.out.lt); clear hb)
  have q0 := D1.out.cell 0
  have q1 := D1.out.cell 1
  have f0 := D1.out.free 0
  have f1 := D1.out.free 1
  have lq := D1.out.lt
  simp at q0 q1
  go_wp2_with fail
  refine bodyPost_ret (by simp [results, Tryz.results43, go_sem, q0, q1, lq]; try rfl) rfl ?_
  exact ⟨rfl, (B1.out.setCell (p := ⟨w.heap.size, 0, none⟩) (Nat.le_refl _) _).setCell (p := ⟨w.heap.size, 1, none⟩) (Nat.le_refl _) _⟩
set_option maxRecDepth 100000 in
set_option maxHeartbeats 8000000 in
theorem brkNone_c (A A' : Option Addr) (c c' B : Nat) (a b : List If) (w : World) (h1 : IfsAt w B A a) (h2 : IfsAt w B A' b) (hB : B ≤ w.heap.size) (hl : a.length ≤ 1000) (hl' : b.length ≤ 1000) (hf : fairB a b = true) (hfa : a.all fewX = true) (hfb : b.all fewX = true) (hbig : bigC (chgF a b) = none) :
    Calls Tryz.prog 43 #[.slice A a.length c, .slice A' b.length c'] w fun e w' => e = .returned (.tuple #[.agg #[.slice none 0 0, .slice none 0 0], .bool false, .nilIface]) ∧ Below w.heap.size w w' := by
  have hW := Blk.new w #[.slice none 0 0, .slice none 0 0] 82
  have hbW : Below w.heap.size w (w.alloc (.cells #[.slice none 0 0, .slice none 0 0] 82)) := (Below.refl _ _).alloc (Nat.le_refl _) _
  have HC := Lib.hid (changes_c A A' c c' B a b (w.alloc (.cells #[.slice none 0 0, .slice none 0 0] 82)) (h1.alloc hB _) (h2.alloc hB _) (Nat.le_trans hB hbW.size) hl hl' hf hfa hfb)
  have HL := Lib.hid (show (chgF a b).length ≤ 2000000 from Nat.le_trans (chgF_len hl hl' hfa hfb) (by omega))
  have HI := Lib.hid (bigI_none hbig)
  clear h1 h2 hf hbig
  have HW := Lib.hid hW
  have HB := Lib.hid hbW
  clear hW hbW
  go_enter Tryz.func43, Tryz.ntmps43
  go_upto_region 2 with (go_at_call 86; refine HC.out.mono ?_; rintro e w1 ⟨v1, rfl, ho, hb⟩; have B1 := Lib.hid (HB.out.trans (hb.mono HB.out.size)); have D1 := Lib.hid (HW.out.under hb HW.out.lt); have R1 := Lib.hid (ChgAt.own ho); clear hb ho)
  go_upto_region 5 with (go_at_call 87; refine (idxChg_c _ v1 _ R1.out HL.out).mono ?_; rintro e w2 ⟨rfl, hb⟩; have B2 := Lib.hid (B1.out.trans (hb.mono B1.out.size)); have D2 := Lib.hid (D1.out.under hb D1.out.lt); clear hb)
  rw [HI.out]
  have q0 := D2.out.cell 0
  have q1 := D2.out.cell 1
  have f0 := D2.out.free 0
  have f1 := D2.out.free 1
  have lq := D2.out.lt
  simp at q0 q1
  go_wp2_with fail
  refine bodyPost_ret (by simp [results, Tryz.results43, go_sem, q0, q1, lq]; try rfl) rfl ?_
  exact ⟨rfl, (B2.out.setCell (p := ⟨w.heap.size, 0, none⟩) (Nat.le_refl _) _).setCell (p := ⟨w.heap.size, 1, none⟩) (Nat.le_refl _) _⟩
set_option maxRecDepth 100000 in
set_option maxHeartbeats 40000000 in
theorem brkYes_c (A A' : Option Addr) (c c' B : Nat) (a b : List If) (cc : Chg) (x : If) (n : Nm) (w : World) (h1 : IfsAt w B A a) (h2 : IfsAt w B A' b) (hB : B ≤ w.heap.size) (hl : a.length ≤ 1000) (hl' : b.length ≤ 1000) (hf : fairB a b = true) (hfa : a.all fewX = true) (hfb : b.all fewX = true) (hbig : bigC (chgF a b) = some cc)
    (hx : firstIface a cc.mod = some x) (hn : firstNamed (selF x cc.ofType) cc.name = some n) (hp : PlainB n.ty = true) :
    Calls Tryz.prog 43 #[.slice A a.length c, .slice A' b.length c'] w fun e w' => (∃ v, e = .returned (.tuple #[v, .bool true, .nilIface]) ∧ UAt w' v (some ⟨x, cc, n.ty⟩)) ∧ Below w.heap.size w w' := by
  have hW := Blk.new w #[.slice none 0 0, .slice none 0 0] 82
  have hbW : Below w.heap.size w (w.alloc (.cells #[.slice none 0 0, .slice none 0 0] 82)) := (Below.refl _ _).alloc (Nat.le_refl _) _
  have HC := Lib.hid (changes_c A A' c c' B a b (w.alloc (.cells #[.slice none 0 0, .slice none 0 0] 82)) (h1.alloc hB _) (h2.alloc hB _) (Nat.le_trans hB hbW.size) hl hl' hf hfa hfb)
  have HL := Lib.hid (show (chgF a b).length ≤ 2000000 from Nat.le_trans (chgF_len hl hl' hfa hfb) (by omega))
  obtain ⟨R, hR⟩ : ∃ R, chgF a b = R := ⟨_, rfl⟩
  simp only [hR] at HC HL hbig
  clear hR
  obtain ⟨k, hk, hkc, hki⟩ := bigI_some hbig
  have HI := Lib.hid hki
  have HK := Lib.hid hkc
  have H1 := Lib.hid h1
  have HMAY := Lib.hid (plain_may hp)
  have HHAD := Lib.hid (fun w h hB => had_c A c B a cc.kind cc.mod cc.name cc.ofType x n w h hB hl hfa hx hn)
  have HCOP := Lib.hid (fun cs B w ht hB => copied_c n.ty cs B w ht hB (plain_may hp))
  clear h1 h2 hf hbig hki hkc hx hn hp
  have HW := Lib.hid hW
  have HB := Lib.hid hbW
  clear hW hbW
  go_enter Tryz.func43, Tryz.ntmps43
  go_upto_region 2 with (go_at_call 86; refine HC.out.mono ?_; rintro e w1 ⟨v1, rfl, ho, hb⟩; have B1 := Lib.hid (HB.out.trans (hb.mono HB.out.size)); have D1 := Lib.hid (HW.out.under hb HW.out.lt); have R1 := Lib.hid (ChgAt.own ho); clear hb ho)
  go_upto_region 5 with (go_at_call 87; refine (idxChg_c _ v1 _ R1.out HL.out).mono ?_; rintro e w2 ⟨rfl, hb⟩; have B2 := Lib.hid (B1.out.trans (hb.mono B1.out.size)); have D2 := Lib.hid (D1.out.under hb D1.out.lt); have R2 := Lib.hid (R1.out.under hb); clear hb)
  rw [HI.out]
  obtain ⟨pp, cap, rfl, hcc⟩ := R2.out
  obtain ⟨bc, oc, rfl, lbc, gc⟩ := hcc (by omega)
  have x0 := gc k hk 0 (by decide)
  have x1 := gc k hk 1 (by decide)
  have x2 := gc k hk 2 (by decide)
  have x3 := gc k hk 3 (by decide)
  rw [HK.out] at x0 x1 x2 x3
  simp [Chg.cells] at x0 x1 x2 x3
  have hkI : (k : Int) < (R.length : Int) := by omega
  have hk0 : ¬ (k : Int) < 0 := by omega
  have hB2 : B ≤ w2.heap.size := Nat.le_trans hB B2.out.size
  clear hcc gc HC D1 B1 R1 R2
  go_upto_region 7 with fail
  go_upto_region 8 with (go_at_call 89; refine (HHAD.out _ (H1.out.under (B2.out.mono hB)) hB2).mono ?_; rintro e w3 ⟨⟨ta, tc, va, vc, na, nc, sa, sc, rfl, htn⟩, hb⟩; simp only [ifCells, tyCells] at htn ⊢; have B3 := Lib.hid (B2.out.trans (hb.mono B2.out.size)); have D3 := Lib.hid (D2.out.under hb D2.out.lt); have XC := Lib.hid (show w3.cell? ⟨bc, oc + k * 4 + 2, none⟩ = some (.string cc.name) from (hb.cell (p := ⟨bc, _, none⟩) lbc).trans x2); have XF := Lib.hid (show w3.cell? ⟨bc, oc + k * 4 + 3, none⟩ = some (.bool cc.ofType) from (hb.cell (p := ⟨bc, _, none⟩) lbc).trans x3); have lb3 := Nat.lt_of_lt_of_le lbc hb.size; have TN := Lib.hid htn; clear hb htn x0 x1 x2 x3)
  obtain ⟨bx, bt, hz8, hb8⟩ := twoW w3 #[.string x.pkg, .int .i64 x.major, .string x.mod, .slice ta x.types.length tc, .slice va x.vals.length vc] #[.int .i64 n.ty.kind, .string n.ty.pkg, .int .i64 n.ty.major, .string n.ty.mod, .string n.ty.name, .slice na n.ty.names.length nc, .slice sa n.ty.subs.length sc] 51 29
  generalize ((w3.alloc (.cells #[.string x.pkg, .int .i64 x.major, .string x.mod, .slice ta x.types.length tc, .slice va x.vals.length vc] 51)).alloc (.cells #[.int .i64 n.ty.kind, .string n.ty.pkg, .int .i64 n.ty.major, .string n.ty.mod, .string n.ty.name, .slice na n.ty.names.length nc, .slice sa n.ty.subs.length sc] 29)) = W at bx bt hz8 hb8 ⊢
  have HCN := Lib.hid ((hb8.cell (p := ⟨bc, _, none⟩) lb3).trans XC.out)
  have HCF := Lib.hid ((hb8.cell (p := ⟨bc, _, none⟩) lb3).trans XF.out)
  have lb8 := Nat.lt_of_lt_of_le lb3 hb8.size
  have hB3 : B ≤ w3.heap.size := Nat.le_trans hB B3.out.size
  have hB8 : B ≤ W.heap.size := Nat.le_trans hB3 hb8.size
  have TN8 := Lib.hid (TN.out.under (hb8.mono hB3))
  have B8 := Lib.hid (B3.out.trans (hb8.mono B3.out.size))
  have D8 := Lib.hid (D3.out.under hb8 D3.out.lt)
  have BX8 := Lib.hid bx
  have BT8 := Lib.hid bt
  generalize w3.heap.size = g10 at bx bt hz8 hb8 hB3 BX8 BT8 lb3 ⊢
  clear bx bt hz8 hb8 hB3 lb3 XC XF TN B3 D3
  refine wp_region_until [(9, fun w' => w'.cell? ⟨bc, oc + k * 4 + 2, none⟩ = some (.string cc.name)), (6, fun w' => Blk w' (g10 + 1) #[.int .i64 n.ty.kind, .string n.ty.pkg, .int .i64 n.ty.major, .string n.ty.mod, .string n.ty.name, .slice na n.ty.names.length nc, .slice sa n.ty.subs.length sc] 29)] (by kernel_rfl) (Until.cons (fun _ => HCN.out) (Until.cons (fun _ => BT8.out.drew) Until.nil)) (fun hU => ?_)
  refine AnyU.take (i := 0) (v := ?_) rfl (by kernel_rfl) (by kernel_rfl) (by kernel_rfl) (fun _ _ _ h => h) (by kernel_rfl) (by assumption) (by rfl) ?_ (fun hV => ?_)
  rotate_left 1
  · (intro wq; go_simp; try with_reducible rfl)
  clear hU; have hU := hV; clear hV
  try simp only [Act.put, aput]
  refine AnyU.take (i := 1) (v := ?_) rfl (by kernel_rfl) (by kernel_rfl) (by kernel_rfl) (fun _ _ _ h => h) (by kernel_rfl) (by assumption) (by rfl) ?_ (fun hV => ?_)
  rotate_left 1
  · (intro wq; go_simp; try with_reducible rfl)
  clear hU; have hU := hV; clear hV
  try simp only [Act.put, aput]
  refine AnyU.take (i := 2) (v := ?_) rfl (by kernel_rfl) (by kernel_rfl) (by kernel_rfl) (fun _ _ _ h => h) (by kernel_rfl) (by assumption) (by rfl) ?_ (fun hV => ?_)
  rotate_left 1
  · (intro wq; go_simp; try with_reducible rfl)
  clear hU; have hU := hV; clear hV
  try simp only [Act.put, aput]
  refine AnyU.take (i := 3) (v := ?_) rfl (by kernel_rfl) (by kernel_rfl) (by kernel_rfl) (fun _ _ _ h => h) (by kernel_rfl) (by assumption) (by rfl) ?_ (fun hV => ?_)
  rotate_left 1
  · (intro wq; go_simp; try with_reducible rfl)
  clear hU; have hU := hV; clear hV
  try simp only [Act.put, aput]
  refine AnyU.loadc (i := 4) (d := 9) [7, 9] (Si := fun w' => w'.cell? ⟨bc, oc + k * 4 + 2, none⟩ = some (.string cc.name)) (v := ?_) rfl (by kernel_rfl) (by kernel_rfl) (by kernel_rfl) (fun _ _ _ h => h) (by kernel_rfl) (by assumption) (by kernel_rfl) rfl (by simp) (by rfl) ?_ (fun hV => ?_)
  rotate_left 1
  · (intro wq hq; go_simp; try with_reducible rfl)
  clear hU; have hU := hV; clear hV
  try simp only [Act.put, aput]
  refine AnyU.loadc (i := 5) (d := 6) [6] (Si := fun w' => Blk w' (g10 + 1) #[.int .i64 n.ty.kind, .string n.ty.pkg, .int .i64 n.ty.major, .string n.ty.mod, .string n.ty.name, .slice na n.ty.names.length nc, .slice sa n.ty.subs.length sc] 29) (v := ?_) rfl (by kernel_rfl) (by kernel_rfl) (by kernel_rfl) (fun _ _ _ h => h) (by kernel_rfl) (by assumption) (by kernel_rfl) rfl (by simp) (by rfl) ?_ (fun hV => ?_)
  rotate_left 1
  · (intro wq hq; have u0 := hq.cell 0; have u1 := hq.cell 1; have u2 := hq.cell 2; have u3 := hq.cell 3; have u4 := hq.cell 4; have u5 := hq.cell 5; have u6 := hq.cell 6; simp at u0 u1 u2 u3 u4 u5 u6; go_simp; try with_reducible rfl)
  clear hU; have hU := hV; clear hV
  try simp only [Act.put, aput]
  refine AnyU.ready2 (i := 6) (j := 8) (by kernel_rfl) (AnyU.one rfl fun K hK => ?_) (AnyU.one rfl fun K hK => ?_)
  · go_simp
    go_at_call 90
    refine (HCOP.out _ B (World.drew W) (TN8.out.keep (w' := World.drew W) fun _ _ => rfl) (hB8)).mono ?_
    rintro e wq ⟨⟨cs2, rfl, htm⟩, hbq⟩
    obtain ⟨na2, nc2, sa2, sc2, f2, rfl, -⟩ := htm.inv
    simp only [tyCells] at htm ⊢
    have hbq : Below W.heap.size W wq := ((Below.refl W.heap.size W).drew).trans hbq
    have hcq := (hbq.cell (p := ⟨bc, _, none⟩) lb8).trans HCN.out
    refine hK.out _ _ (Until.cons (fun _ => hcq) (Until.cons (fun h => absurd h (by decide)) Until.nil)) (fun hV => ?_)
    clear hK K
    clear hU; have hU := hV; clear hV
    try simp only [Act.put, aput]
    refine AnyU.take (i := 7) (v := ?_) rfl (by kernel_rfl) (by kernel_rfl) (by kernel_rfl) (fun _ _ _ h => h) (by kernel_rfl) (by assumption) (by rfl) ?_ (fun hV => ?_)
    rotate_left 1
    · (intro wq; go_simp; try with_reducible rfl)
    clear hU; have hU := hV; clear hV
    try simp only [Act.put, aput]
    refine AnyU.ready1 (i := 8) (by kernel_rfl) (AnyU.one rfl fun K hK => ?_)
    go_simp
    have bl := Blk.new wq #[.int .i64 0, .string { data := #[] }, .string { data := #[] }, .int .i64 0, .string { data := #[] }, .int .i64 0, .string { data := #[] }, .string { data := #[] }, .slice none 0 0, .slice none 0 0] 138
    have bq0 := hbq.alloc hbq.size (.cells #[.int .i64 0, .string { data := #[] }, .string { data := #[] }, .int .i64 0, .string { data := #[] }, .int .i64 0, .string { data := #[] }, .string { data := #[] }, .slice none 0 0, .slice none 0 0] 138)
    have hzz : (wq.alloc (.cells #[.int .i64 0, .string { data := #[] }, .string { data := #[] }, .int .i64 0, .string { data := #[] }, .int .i64 0, .string { data := #[] }, .string { data := #[] }, .slice none 0 0, .slice none 0 0] 138)).heap.size = wq.heap.size + 1 := by simp
    have htm := htm.keep (w' := wq.alloc (.cells #[.int .i64 0, .string { data := #[] }, .string { data := #[] }, .int .i64 0, .string { data := #[] }, .int .i64 0, .string { data := #[] }, .string { data := #[] }, .slice none 0 0, .slice none 0 0] 138)) fun p hp => World.cell?_alloc_lt _ _ _ hp.2
    have hmn : ∀ b, Fresh (World.drew W) wq b → b ≠ wq.heap.size ∧ b < wq.heap.size + 1 := fun b hb => ⟨Nat.ne_of_lt hb.2, Nat.lt_succ_of_lt hb.2⟩
    have hg12 : W.heap.size ≤ wq.heap.size := hbq.size
    have hcx := (World.cell?_alloc_lt wq (.cells #[.int .i64 0, .string { data := #[] }, .string { data := #[] }, .int .i64 0, .string { data := #[] }, .int .i64 0, .string { data := #[] }, .string { data := #[] }, .slice none 0 0, .slice none 0 0] 138) ⟨bc, oc + k * 4 + 2, none⟩ (Nat.lt_of_lt_of_le lb8 hbq.size)).trans hcq
    have hzx : wq.heap.size + 1 = (wq.alloc (.cells #[.int .i64 0, .string { data := #[] }, .string { data := #[] }, .int .i64 0, .string { data := #[] }, .int .i64 0, .string { data := #[] }, .string { data := #[] }, .slice none 0 0, .slice none 0 0] 138)).heap.size := hzz.symm
    generalize hX8 : wq.alloc (.cells #[.int .i64 0, .string { data := #[] }, .string { data := #[] }, .int .i64 0, .string { data := #[] }, .int .i64 0, .string { data := #[] }, .string { data := #[] }, .slice none 0 0, .slice none 0 0] 138) = X8 at bl bq0 htm hcx hzx ⊢
    clear hX8 hzz
    generalize wq.heap.size = g12 at bl hmn hg12 hzx ⊢
    have BL := Lib.hid bl
    have BQ0 := Lib.hid bq0
    have HTM := Lib.hid htm
    have HG12 := Lib.hid hg12
    have HNE := Lib.hid (show ∀ b, Fresh (World.drew W) wq b → b ≠ w.heap.size from fun b hb => by have h1 := D8.out.lt; have h2 : W.heap.size ≤ b := hb.1; omega)
    have HMN := Lib.hid (show ∀ b, Fresh (World.drew W) wq b → b ≠ g12 ∧ b < X8.heap.size from fun b hb => by rw [← hzx]; exact hmn b hb)
    clear bl bq0 htm hg12 hmn hzx hcq
    refine hK.out _ _ (Until.cons (fun _ => hcx) (Until.cons (fun h => absurd h (by decide)) Until.nil)) (fun hV => ?_)
    clear hK K
    clear hU; have hU := hV; clear hV
    try simp only [Act.put, aput]
    have z0 := BL.out.cell 0
    have y0 := BL.out.free 0
    have z1 := BL.out.cell 1
    have y1 := BL.out.free 1
    have z2 := BL.out.cell 2
    have y2 := BL.out.free 2
    have z3 := BL.out.cell 3
    have y3 := BL.out.free 3
    have z4 := BL.out.cell 4
    have y4 := BL.out.free 4
    have z5 := BL.out.cell 5
    have y5 := BL.out.free 5
    have z6 := BL.out.cell 6
    have y6 := BL.out.free 6
    have z7 := BL.out.cell 7
    have y7 := BL.out.free 7
    have z8 := BL.out.cell 8
    have y8 := BL.out.free 8
    have z9 := BL.out.cell 9
    have y9 := BL.out.free 9
    simp at z0 z1 z2 z3 z4 z5 z6 z7 z8 z9
    have ll := BL.out.lt
    refine AnyU.ready1 (i := 9) (by kernel_rfl) (AnyU.one rfl fun K hK => ?_)
    go_simp
    have r1 := put10h_full (.int .i64 1) (.string { data := #[109] }) (.string cc.name) (.int .i64 n.ty.kind) (.string n.ty.pkg) (.int .i64 n.ty.major) (.string n.ty.mod) (.string n.ty.name) (.slice na2 n.ty.names.length nc2) (.slice sa2 n.ty.subs.length sc2) BL.out
    have r2 := put10h_bel (.int .i64 1) (.string { data := #[109] }) (.string cc.name) (.int .i64 n.ty.kind) (.string n.ty.pkg) (.int .i64 n.ty.major) (.string n.ty.mod) (.string n.ty.name) (.slice na2 n.ty.names.length nc2) (.slice sa2 n.ty.subs.length sc2) BQ0.out HG12.out
    have r3 := fun b (hne : b ≠ g12) => put10h_heap (.int .i64 1) (.string { data := #[109] }) (.string cc.name) (.int .i64 n.ty.kind) (.string n.ty.pkg) (.int .i64 n.ty.major) (.string n.ty.mod) (.string n.ty.name) (.slice na2 n.ty.names.length nc2) (.slice sa2 n.ty.subs.length sc2) (w := X8) hne
    have r4 := put10h_size (.int .i64 1) (.string { data := #[109] }) (.string cc.name) (.int .i64 n.ty.kind) (.string n.ty.pkg) (.int .i64 n.ty.major) (.string n.ty.mod) (.string n.ty.name) (.slice na2 n.ty.names.length nc2) (.slice sa2 n.ty.subs.length sc2) (w := X8) (g := g12)
    generalize ((((((((((X8.setCell ⟨g12, 0, none⟩ (.int .i64 1)).setCell ⟨g12, 1, none⟩ (.string { data := #[109] })).setCell ⟨g12, 2, none⟩ (.string cc.name)).setCell ⟨g12, 3, none⟩ (.int .i64 n.ty.kind)).setCell ⟨g12, 4, none⟩ (.string n.ty.pkg)).setCell ⟨g12, 5, none⟩ (.int .i64 n.ty.major)).setCell ⟨g12, 6, none⟩ (.string n.ty.mod)).setCell ⟨g12, 7, none⟩ (.string n.ty.name)).setCell ⟨g12, 8, none⟩ (.slice na2 n.ty.names.length nc2)).setCell ⟨g12, 9, none⟩ (.slice sa2 n.ty.subs.length sc2)) = X9 at r1 r2 r3 r4 ⊢
    have hz9 : X8.heap.size ≤ X9.heap.size := by rw [r4]; exact Nat.le_refl _
    have BL9 := Lib.hid r1
    have BQ := Lib.hid r2
    have TM9 := Lib.hid (HTM.out.keep (w' := X9) fun p hp => World.cell?_of_block (r3 p.block (HMN.out p.block hp).1))
    have LT9 := Lib.hid (show X9.heap.size = X8.heap.size from r4)
    clear r1 r2 r3 r4 hz9 ll z0 y0 z1 y1 z2 y2 z3 y3 z4 y4 z5 y5 z6 y6 z7 y7 z8 y8 z9 y9
    refine hK.out _ _ (Until.off (by kernel_rfl)) (fun hV => ?_)
    clear hK K
    clear hU; have hU := hV; clear hV
    try simp only [Act.put, aput]
    refine AnyU.done (by kernel_rfl) ?_
    clear hU
    have cf := (BQ.out.cell (p := ⟨bc, _, none⟩) lb8).trans HCF.out
    have lb9 := Nat.lt_of_lt_of_le lb8 BQ.out.size
    have BX9 := Lib.hid (BX8.out.under BQ.out BX8.out.lt)
    have D9 := Lib.hid (D8.out.under BQ.out D8.out.lt)
    have B9 := Lib.hid (B8.out.trans (BQ.out.mono B8.out.size))
    obtain ⟨o, ho⟩ : ∃ o, cc.ofType = o := ⟨_, rfl⟩
    have HOO := Lib.hid ho
    rw [ho] at cf ⊢
    clear ho
    cases o
    · go_upto_region 11 with fail
      have bl := BL9.out
      have bb := B9.out
      have bx := BX9.out
      have dd := D9.out
      have tm := TM9.out
      have lt := LT9.out
      generalize X9 = Xb at bl bb bx dd tm lt ⊢
      have hmb : ∀ b, _ → b < Xb.heap.size := fun b hb => by have := (HMN.out b hb).2; rw [lt]; exact this
      have HMb := Lib.hid hmb
      have BLb := Lib.hid bl
      have BBb := Lib.hid bb
      have BXb := Lib.hid bx
      have Db := Lib.hid dd
      have TYb := Lib.hid tm
      clear bl bb bx dd tm lt hmb cf lb9
      obtain ⟨n0, n1, n2, n3, n4⟩ := cellsN5 BXb.out
      have ln := BXb.out.lt
      go_upto_region 12 with fail
      clear n0 n1 n2 n3 n4 ln
      have ib := Blk.new Xb #[.string x.pkg, .int .i64 x.major, .string x.mod, .string { data := #[109] }] 55
      have hbi : Below Xb.heap.size Xb (Xb.alloc (.cells #[.string x.pkg, .int .i64 x.major, .string x.mod, .string { data := #[109] }] 55)) := (Below.refl _ _).alloc (Nat.le_refl _) _
      generalize Xb.alloc (.cells #[.string x.pkg, .int .i64 x.major, .string x.mod, .string { data := #[109] }] 55) = Xc at ib hbi ⊢
      generalize hgi : Xb.heap.size = gi at ib ⊢
      clear hgi
      have BLc := Lib.hid (BLb.out.under hbi BLb.out.lt)
      have BBc := Lib.hid (BBb.out.trans (hbi.mono BBb.out.size))
      have Dc := Lib.hid (Db.out.under hbi Db.out.lt)
      have TYc := Lib.hid (TYb.out.keep (w' := Xc) fun p hp => hbi.cell (HMb.out p.block hp))
      have HMc := Lib.hid (show ∀ b, _ → b < Xc.heap.size from fun b hb => Nat.lt_of_lt_of_le (HMb.out b hb) hbi.size)
      have IB := Lib.hid ib
      clear hbi ib
      obtain ⟨i0, i1, i2, i3⟩ := cellsC IB.out
      have li := IB.out.lt
      have z0 := BLc.out.cell 0
      have z1 := BLc.out.cell 1
      have z2 := BLc.out.cell 2
      have z3 := BLc.out.cell 3
      have z4 := BLc.out.cell 4
      have z5 := BLc.out.cell 5
      have z6 := BLc.out.cell 6
      have z7 := BLc.out.cell 7
      have z8 := BLc.out.cell 8
      have z9 := BLc.out.cell 9
      simp at z0 z1 z2 z3 z4 z5 z6 z7 z8 z9
      have ll := BLc.out.lt
      have d0 := Dc.out.cell 0
      have d1 := Dc.out.cell 1
      simp at d0 d1
      have fd0 := Dc.out.free 0
      have fd1 := Dc.out.free 1
      have ld := Dc.out.lt
      go_wp2_with fail
      have dz0 : Blk ((Xc.setCell ⟨w.heap.size, 0, none⟩ (.slice (some ⟨Xc.heap.size, 0, none⟩) 1 1)).setCell ⟨w.heap.size, 1, none⟩ (.slice (some ⟨Xc.heap.size + 1, 0, none⟩) 1 1)) w.heap.size #[(.slice (some ⟨Xc.heap.size, 0, none⟩) 1 1), (.slice (some ⟨Xc.heap.size + 1, 0, none⟩) 1 1)] 82 := by have := (Dc.out.set 0 (.slice (some ⟨Xc.heap.size, 0, none⟩) 1 1)).set 1 (.slice (some ⟨Xc.heap.size + 1, 0, none⟩) 1 1); simpa using this
      have hs0 : ((Xc.setCell ⟨w.heap.size, 0, none⟩ (.slice (some ⟨Xc.heap.size, 0, none⟩) 1 1)).setCell ⟨w.heap.size, 1, none⟩ (.slice (some ⟨Xc.heap.size + 1, 0, none⟩) 1 1)).heap.size = Xc.heap.size := (set_size _ _ _ _).trans (set_size _ _ _ _)
      have bS : Below w.heap.size w ((Xc.setCell ⟨w.heap.size, 0, none⟩ (.slice (some ⟨Xc.heap.size, 0, none⟩) 1 1)).setCell ⟨w.heap.size, 1, none⟩ (.slice (some ⟨Xc.heap.size + 1, 0, none⟩) 1 1)) := (BBc.out.setCell (p := ⟨w.heap.size, 0, none⟩) (Nat.le_refl _) _).setCell (p := ⟨w.heap.size, 1, none⟩) (Nat.le_refl _) _
      have tS := TYc.out.keep (w' := ((Xc.setCell ⟨w.heap.size, 0, none⟩ (.slice (some ⟨Xc.heap.size, 0, none⟩) 1 1)).setCell ⟨w.heap.size, 1, none⟩ (.slice (some ⟨Xc.heap.size + 1, 0, none⟩) 1 1))) fun p hp => (World.cell?_of_block ((set_heap _ _ _ _ (HNE.out p.block hp)).trans (set_heap _ _ _ _ (HNE.out p.block hp))))
      generalize ((Xc.setCell ⟨w.heap.size, 0, none⟩ (.slice (some ⟨Xc.heap.size, 0, none⟩) 1 1)).setCell ⟨w.heap.size, 1, none⟩ (.slice (some ⟨Xc.heap.size + 1, 0, none⟩) 1 1)) = X0 at dz0 hs0 bS tS ⊢
      obtain ⟨w1b, w2b, w3b, w4b⟩ := twoW X0 #[.string x.pkg, .int .i64 x.major, .string x.mod, .string { data := #[109] }] #[.int .i64 1, .string { data := #[109] }, .string cc.name, .int .i64 n.ty.kind, .string n.ty.pkg, .int .i64 n.ty.major, .string n.ty.mod, .string n.ty.name, .slice na2 n.ty.names.length nc2, .slice sa2 n.ty.subs.length sc2] 55 138
      have dz := dz0.under w4b dz0.lt
      have fb : Below w.heap.size w ((X0.alloc (.cells #[.string x.pkg, .int .i64 x.major, .string x.mod, .string { data := #[109] }] 55)).alloc (.cells #[.int .i64 1, .string { data := #[109] }, .string cc.name, .int .i64 n.ty.kind, .string n.ty.pkg, .int .i64 n.ty.major, .string n.ty.mod, .string n.ty.name, .slice na2 n.ty.names.length nc2, .slice sa2 n.ty.subs.length sc2] 138)) := bS.trans (w4b.mono bS.size)
      have ft := ((tS.keep (w' := ((X0.alloc (.cells #[.string x.pkg, .int .i64 x.major, .string x.mod, .string { data := #[109] }] 55)).alloc (.cells #[.int .i64 1, .string { data := #[109] }, .string cc.name, .int .i64 n.ty.kind, .string n.ty.pkg, .int .i64 n.ty.major, .string n.ty.mod, .string n.ty.name, .slice na2 n.ty.names.length nc2, .slice sa2 n.ty.subs.length sc2] 138))) fun p hp => w4b.cell (by rw [hs0]; exact HMc.out p.block hp)).mono fun b hb => (show b < (((X0.alloc (.cells #[.string x.pkg, .int .i64 x.major, .string x.mod, .string { data := #[109] }] 55)).alloc (.cells #[.int .i64 1, .string { data := #[109] }, .string cc.name, .int .i64 n.ty.kind, .string n.ty.pkg, .int .i64 n.ty.major, .string n.ty.mod, .string n.ty.name, .slice na2 n.ty.names.length nc2, .slice sa2 n.ty.subs.length sc2] 138))).heap.size by have := HMc.out b hb; rw [w3b, hs0]; omega)).toC
      have f1 := w1b
      have f2 := w2b
      rw [hs0] at f1 f2
      generalize ((X0.alloc (.cells #[.string x.pkg, .int .i64 x.major, .string x.mod, .string { data := #[109] }] 55)).alloc (.cells #[.int .i64 1, .string { data := #[109] }, .string cc.name, .int .i64 n.ty.kind, .string n.ty.pkg, .int .i64 n.ty.major, .string n.ty.mod, .string n.ty.name, .slice na2 n.ty.names.length nc2, .slice sa2 n.ty.subs.length sc2] 138)) = Wf at dz f1 f2 fb ft ⊢
      have r0 := dz.cell 0
      have r1 := dz.cell 1
      simp at r0 r1
      refine bodyPost_ret (by simp [results, Tryz.results43, go_sem, r0, r1, dz.lt]; try rfl) rfl ?_
      refine ⟨⟨_, rfl, Xc.heap.size, Xc.heap.size + 1, na2, nc2, sa2, sc2, rfl, f1, ?_, ?_⟩, fb⟩
      · show Blk Wf _ #[.int .i64 (if cc.ofType = true then 2 else 1), _, _, _, _, _, _, _, _, _] _
        rw [HOO.out]
        exact f2
      · exact ft
    · have z0 := BL9.out.cell 0
      have y0 := BL9.out.free 0
      have ll := BL9.out.lt
      simp at z0
      go_upto_region 11 with fail
      have bl : Blk (X9.setCell ⟨g12, 0, none⟩ (.int .i64 2)) g12 #[.int .i64 2, .string { data := #[109] }, .string cc.name, .int .i64 n.ty.kind, .string n.ty.pkg, .int .i64 n.ty.major, .string n.ty.mod, .string n.ty.name, .slice na2 n.ty.names.length nc2, .slice sa2 n.ty.subs.length sc2] 138 := by have := BL9.out.set 0 (.int .i64 2); simpa using this
      have bb : Below w.heap.size w (X9.setCell ⟨g12, 0, none⟩ (.int .i64 2)) := B9.out.setCell (p := ⟨g12, 0, none⟩) (Nat.le_trans B8.out.size HG12.out) _
      have hnx : g10 ≠ g12 := fun e => by have h1 := BX8.out.lt; have h2 := HG12.out; omega
      have hnd : w.heap.size ≠ g12 := fun e => by have h1 := D8.out.lt; have h2 := HG12.out; omega
      have bx := BX9.out.far ⟨g12, 0, none⟩ (.int .i64 2) hnx
      have dd := D9.out.far ⟨g12, 0, none⟩ (.int .i64 2) hnd
      have tm := TM9.out.keep (w' := (X9.setCell ⟨g12, 0, none⟩ (.int .i64 2))) fun p hp => World.cell?_of_block (set_heap X9 g12 0 _ (HMN.out p.block hp).1)
      have lt : (X9.setCell ⟨g12, 0, none⟩ (.int .i64 2)).heap.size = X8.heap.size := (set_size _ _ _ _).trans LT9.out
      generalize (X9.setCell ⟨g12, 0, none⟩ (.int .i64 2)) = Xb at bl bb bx dd tm lt ⊢
      clear z0 y0 ll
      have hmb : ∀ b, _ → b < Xb.heap.size := fun b hb => by have := (HMN.out b hb).2; rw [lt]; exact this
      have HMb := Lib.hid hmb
      have BLb := Lib.hid bl
      have BBb := Lib.hid bb
      have BXb := Lib.hid bx
      have Db := Lib.hid dd
      have TYb := Lib.hid tm
      clear bl bb bx dd tm lt hmb cf lb9
      obtain ⟨n0, n1, n2, n3, n4⟩ := cellsN5 BXb.out
      have ln := BXb.out.lt
      go_upto_region 12 with fail
      clear n0 n1 n2 n3 n4 ln
      have ib := Blk.new Xb #[.string x.pkg, .int .i64 x.major, .string x.mod, .string { data := #[109] }] 55
      have hbi : Below Xb.heap.size Xb (Xb.alloc (.cells #[.string x.pkg, .int .i64 x.major, .string x.mod, .string { data := #[109] }] 55)) := (Below.refl _ _).alloc (Nat.le_refl _) _
      generalize Xb.alloc (.cells #[.string x.pkg, .int .i64 x.major, .string x.mod, .string { data := #[109] }] 55) = Xc at ib hbi ⊢
      generalize hgi : Xb.heap.size = gi at ib ⊢
      clear hgi
      have BLc := Lib.hid (BLb.out.under hbi BLb.out.lt)
      have BBc := Lib.hid (BBb.out.trans (hbi.mono BBb.out.size))
      have Dc := Lib.hid (Db.out.under hbi Db.out.lt)
      have TYc := Lib.hid (TYb.out.keep (w' := Xc) fun p hp => hbi.cell (HMb.out p.block hp))
      have HMc := Lib.hid (show ∀ b, _ → b < Xc.heap.size from fun b hb => Nat.lt_of_lt_of_le (HMb.out b hb) hbi.size)
      have IB := Lib.hid ib
      clear hbi ib
      obtain ⟨i0, i1, i2, i3⟩ := cellsC IB.out
      have li := IB.out.lt
      have z0 := BLc.out.cell 0
      have z1 := BLc.out.cell 1
      have z2 := BLc.out.cell 2
      have z3 := BLc.out.cell 3
      have z4 := BLc.out.cell 4
      have z5 := BLc.out.cell 5
      have z6 := BLc.out.cell 6
      have z7 := BLc.out.cell 7
      have z8 := BLc.out.cell 8
      have z9 := BLc.out.cell 9
      simp at z0 z1 z2 z3 z4 z5 z6 z7 z8 z9
      have ll := BLc.out.lt
      have d0 := Dc.out.cell 0
      have d1 := Dc.out.cell 1
      simp at d0 d1
      have fd0 := Dc.out.free 0
      have fd1 := Dc.out.free 1
      have ld := Dc.out.lt
      go_wp2_with fail
      have dz0 : Blk ((Xc.setCell ⟨w.heap.size, 0, none⟩ (.slice (some ⟨Xc.heap.size, 0, none⟩) 1 1)).setCell ⟨w.heap.size, 1, none⟩ (.slice (some ⟨Xc.heap.size + 1, 0, none⟩) 1 1)) w.heap.size #[(.slice (some ⟨Xc.heap.size, 0, none⟩) 1 1), (.slice (some ⟨Xc.heap.size + 1, 0, none⟩) 1 1)] 82 := by have := (Dc.out.set 0 (.slice (some ⟨Xc.heap.size, 0, none⟩) 1 1)).set 1 (.slice (some ⟨Xc.heap.size + 1, 0, none⟩) 1 1); simpa using this
      have hs0 : ((Xc.setCell ⟨w.heap.size, 0, none⟩ (.slice (some ⟨Xc.heap.size, 0, none⟩) 1 1)).setCell ⟨w.heap.size, 1, none⟩ (.slice (some ⟨Xc.heap.size + 1, 0, none⟩) 1 1)).heap.size = Xc.heap.size := (set_size _ _ _ _).trans (set_size _ _ _ _)
      have bS : Below w.heap.size w ((Xc.setCell ⟨w.heap.size, 0, none⟩ (.slice (some ⟨Xc.heap.size, 0, none⟩) 1 1)).setCell ⟨w.heap.size, 1, none⟩ (.slice (some ⟨Xc.heap.size + 1, 0, none⟩) 1 1)) := (BBc.out.setCell (p := ⟨w.heap.size, 0, none⟩) (Nat.le_refl _) _).setCell (p := ⟨w.heap.size, 1, none⟩) (Nat.le_refl _) _
      have tS := TYc.out.keep (w' := ((Xc.setCell ⟨w.heap.size, 0, none⟩ (.slice (some ⟨Xc.heap.size, 0, none⟩) 1 1)).setCell ⟨w.heap.size, 1, none⟩ (.slice (some ⟨Xc.heap.size + 1, 0, none⟩) 1 1))) fun p hp => (World.cell?_of_block ((set_heap _ _ _ _ (HNE.out p.block hp)).trans (set_heap _ _ _ _ (HNE.out p.block hp))))
      generalize ((Xc.setCell ⟨w.heap.size, 0, none⟩ (.slice (some ⟨Xc.heap.size, 0, none⟩) 1 1)).setCell ⟨w.heap.size, 1, none⟩ (.slice (some ⟨Xc.heap.size + 1, 0, none⟩) 1 1)) = X0 at dz0 hs0 bS tS ⊢
      obtain ⟨w1b, w2b, w3b, w4b⟩ := twoW X0 #[.string x.pkg, .int .i64 x.major, .string x.mod, .string { data := #[109] }] #[.int .i64 2, .string { data := #[109] }, .string cc.name, .int .i64 n.ty.kind, .string n.ty.pkg, .int .i64 n.ty.major, .string n.ty.mod, .string n.ty.name, .slice na2 n.ty.names.length nc2, .slice sa2 n.ty.subs.length sc2] 55 138
      have dz := dz0.under w4b dz0.lt
      have fb : Below w.heap.size w ((X0.alloc (.cells #[.string x.pkg, .int .i64 x.major, .string x.mod, .string { data := #[109] }] 55)).alloc (.cells #[.int .i64 2, .string { data := #[109] }, .string cc.name, .int .i64 n.ty.kind, .string n.ty.pkg, .int .i64 n.ty.major, .string n.ty.mod, .string n.ty.name, .slice na2 n.ty.names.length nc2, .slice sa2 n.ty.subs.length sc2] 138)) := bS.trans (w4b.mono bS.size)
      have ft := ((tS.keep (w' := ((X0.alloc (.cells #[.string x.pkg, .int .i64 x.major, .string x.mod, .string { data := #[109] }] 55)).alloc (.cells #[.int .i64 2, .string { data := #[109] }, .string cc.name, .int .i64 n.ty.kind, .string n.ty.pkg, .int .i64 n.ty.major, .string n.ty.mod, .string n.ty.name, .slice na2 n.ty.names.length nc2, .slice sa2 n.ty.subs.length sc2] 138))) fun p hp => w4b.cell (by rw [hs0]; exact HMc.out p.block hp)).mono fun b hb => (show b < (((X0.alloc (.cells #[.string x.pkg, .int .i64 x.major, .string x.mod, .string { data := #[109] }] 55)).alloc (.cells #[.int .i64 2, .string { data := #[109] }, .string cc.name, .int .i64 n.ty.kind, .string n.ty.pkg, .int .i64 n.ty.major, .string n.ty.mod, .string n.ty.name, .slice na2 n.ty.names.length nc2, .slice sa2 n.ty.subs.length sc2] 138))).heap.size by have := HMc.out b hb; rw [w3b, hs0]; omega)).toC
      have f1 := w1b
      have f2 := w2b
      rw [hs0] at f1 f2
      generalize ((X0.alloc (.cells #[.string x.pkg, .int .i64 x.major, .string x.mod, .string { data := #[109] }] 55)).alloc (.cells #[.int .i64 2, .string { data := #[109] }, .string cc.name, .int .i64 n.ty.kind, .string n.ty.pkg, .int .i64 n.ty.major, .string n.ty.mod, .string n.ty.name, .slice na2 n.ty.names.length nc2, .slice sa2 n.ty.subs.length sc2] 138)) = Wf at dz f1 f2 fb ft ⊢
      have r0 := dz.cell 0
      have r1 := dz.cell 1
      simp at r0 r1
      refine bodyPost_ret (by simp [results, Tryz.results43, go_sem, r0, r1, dz.lt]; try rfl) rfl ?_
      refine ⟨⟨_, rfl, Xc.heap.size, Xc.heap.size + 1, na2, nc2, sa2, sc2, rfl, f1, ?_, ?_⟩, fb⟩
      · show Blk Wf _ #[.int .i64 (if cc.ofType = true then 2 else 1), _, _, _, _, _, _, _, _, _] _
        rw [HOO.out]
        exact f2
      · exact ft
  · go_simp
    have bl := (Blk.new W #[.int .i64 0, .string { data := #[] }, .string { data := #[] }, .int .i64 0, .string { data := #[] }, .int .i64 0, .string { data := #[] }, .string { data := #[] }, .slice none 0 0, .slice none 0 0] 138).drew
    have bq0 := ((Below.refl W.heap.size W).alloc (Nat.le_refl _) (.cells #[.int .i64 0, .string { data := #[] }, .string { data := #[] }, .int .i64 0, .string { data := #[] }, .int .i64 0, .string { data := #[] }, .string { data := #[] }, .slice none 0 0, .slice none 0 0] 138)).drew
    have hzz : ((W.alloc (.cells #[.int .i64 0, .string { data := #[] }, .string { data := #[] }, .int .i64 0, .string { data := #[] }, .int .i64 0, .string { data := #[] }, .string { data := #[] }, .slice none 0 0, .slice none 0 0] 138)).drew).heap.size = W.heap.size + 1 := by show (W.alloc (.cells #[.int .i64 0, .string { data := #[] }, .string { data := #[] }, .int .i64 0, .string { data := #[] }, .int .i64 0, .string { data := #[] }, .string { data := #[] }, .slice none 0 0, .slice none 0 0] 138)).heap.size = _; simp
    generalize hX7 : (W.alloc (.cells #[.int .i64 0, .string { data := #[] }, .string { data := #[] }, .int .i64 0, .string { data := #[] }, .int .i64 0, .string { data := #[] }, .string { data := #[] }, .slice none 0 0, .slice none 0 0] 138)).drew = X7 at bl bq0 hzz ⊢
    clear hX7
    have BL0 := Lib.hid bl
    have BQ7 := Lib.hid bq0
    have HZ7 := Lib.hid hzz
    have BT7 := Lib.hid (BT8.out.under bq0 BT8.out.lt)
    have hcx := (bq0.cell (p := ⟨bc, _, none⟩) lb8).trans HCN.out
    clear bl hzz
    refine hK.out _ _ (Until.cons (fun _ => hcx) (Until.cons (fun _ => BT7.out) Until.nil)) (fun hV => ?_)
    clear hK K
    clear hU; have hU := hV; clear hV
    try simp only [Act.put, aput]
    refine AnyU.ready1 (i := 6) (by kernel_rfl) (AnyU.one rfl fun K hK => ?_)
    go_simp
    go_at_call 90
    refine (HCOP.out _ B X7 (TN8.out.under (bq0.mono hB8)) (Nat.le_trans hB8 bq0.size)).mono ?_
    rintro e wq ⟨⟨cs2, rfl, htm⟩, hbq⟩
    obtain ⟨na2, nc2, sa2, sc2, f2, rfl, -⟩ := htm.inv
    simp only [tyCells] at htm ⊢
    have BQ0 := Lib.hid (bq0.trans (hbq.mono bq0.size))
    have BL := Lib.hid (BL0.out.under hbq BL0.out.lt)
    have hcq := (hbq.cell (p := ⟨bc, _, none⟩) (Nat.lt_of_lt_of_le lb8 bq0.size)).trans hcx
    have HTM := Lib.hid htm
    have hmn : ∀ b, Fresh X7 wq b → b ≠ W.heap.size ∧ b < wq.heap.size := fun b hb => ⟨by have := hb.1; have := HZ7.out; omega, hb.2⟩
    have hg12 : W.heap.size ≤ W.heap.size := Nat.le_refl _
    have HNE := Lib.hid (show ∀ b, Fresh X7 wq b → b ≠ w.heap.size from fun b hb => by have h1 := D8.out.lt; have h2 := hb.1; have h3 := HZ7.out; omega)
    have HMN := Lib.hid hmn
    have HG12 := Lib.hid hg12
    clear hmn hg12 htm hbq hcx bq0
    refine hK.out _ _ (Until.cons (fun _ => hcq) (Until.cons (fun h => absurd h (by decide)) Until.nil)) (fun hV => ?_)
    clear hK K
    clear hU; have hU := hV; clear hV
    try simp only [Act.put, aput]
    refine AnyU.take (i := 7) (v := ?_) rfl (by kernel_rfl) (by kernel_rfl) (by kernel_rfl) (fun _ _ _ h => h) (by kernel_rfl) (by assumption) (by rfl) ?_ (fun hV => ?_)
    rotate_left 1
    · (intro wq; go_simp; try with_reducible rfl)
    clear hU; have hU := hV; clear hV
    try simp only [Act.put, aput]
    have z0 := BL.out.cell 0
    have y0 := BL.out.free 0
    have z1 := BL.out.cell 1
    have y1 := BL.out.free 1
    have z2 := BL.out.cell 2
    have y2 := BL.out.free 2
    have z3 := BL.out.cell 3
    have y3 := BL.out.free 3
    have z4 := BL.out.cell 4
    have y4 := BL.out.free 4
    have z5 := BL.out.cell 5
    have y5 := BL.out.free 5
    have z6 := BL.out.cell 6
    have y6 := BL.out.free 6
    have z7 := BL.out.cell 7
    have y7 := BL.out.free 7
    have z8 := BL.out.cell 8
    have y8 := BL.out.free 8
    have z9 := BL.out.cell 9
    have y9 := BL.out.free 9
    simp at z0 z1 z2 z3 z4 z5 z6 z7 z8 z9
    have ll := BL.out.lt
    refine AnyU.ready1 (i := 9) (by kernel_rfl) (AnyU.one rfl fun K hK => ?_)
    go_simp
    have r1 := put10h_full (.int .i64 1) (.string { data := #[109] }) (.string cc.name) (.int .i64 n.ty.kind) (.string n.ty.pkg) (.int .i64 n.ty.major) (.string n.ty.mod) (.string n.ty.name) (.slice na2 n.ty.names.length nc2) (.slice sa2 n.ty.subs.length sc2) BL.out
    have r2 := put10h_bel (.int .i64 1) (.string { data := #[109] }) (.string cc.name) (.int .i64 n.ty.kind) (.string n.ty.pkg) (.int .i64 n.ty.major) (.string n.ty.mod) (.string n.ty.name) (.slice na2 n.ty.names.length nc2) (.slice sa2 n.ty.subs.length sc2) BQ0.out HG12.out
    have r3 := fun b (hne : b ≠ W.heap.size) => put10h_heap (.int .i64 1) (.string { data := #[109] }) (.string cc.name) (.int .i64 n.ty.kind) (.string n.ty.pkg) (.int .i64 n.ty.major) (.string n.ty.mod) (.string n.ty.name) (.slice na2 n.ty.names.length nc2) (.slice sa2 n.ty.subs.length sc2) (w := wq) hne
    have r4 := put10h_size (.int .i64 1) (.string { data := #[109] }) (.string cc.name) (.int .i64 n.ty.kind) (.string n.ty.pkg) (.int .i64 n.ty.major) (.string n.ty.mod) (.string n.ty.name) (.slice na2 n.ty.names.length nc2) (.slice sa2 n.ty.subs.length sc2) (w := wq) (g := W.heap.size)
    generalize ((((((((((wq.setCell ⟨W.heap.size, 0, none⟩ (.int .i64 1)).setCell ⟨W.heap.size, 1, none⟩ (.string { data := #[109] })).setCell ⟨W.heap.size, 2, none⟩ (.string cc.name)).setCell ⟨W.heap.size, 3, none⟩ (.int .i64 n.ty.kind)).setCell ⟨W.heap.size, 4, none⟩ (.string n.ty.pkg)).setCell ⟨W.heap.size, 5, none⟩ (.int .i64 n.ty.major)).setCell ⟨W.heap.size, 6, none⟩ (.string n.ty.mod)).setCell ⟨W.heap.size, 7, none⟩ (.string n.ty.name)).setCell ⟨W.heap.size, 8, none⟩ (.slice na2 n.ty.names.length nc2)).setCell ⟨W.heap.size, 9, none⟩ (.slice sa2 n.ty.subs.length sc2)) = X9 at r1 r2 r3 r4 ⊢
    have hz9 : wq.heap.size ≤ X9.heap.size := by rw [r4]; exact Nat.le_refl _
    have BL9 := Lib.hid r1
    have BQ := Lib.hid r2
    have TM9 := Lib.hid (HTM.out.keep (w' := X9) fun p hp => World.cell?_of_block (r3 p.block (HMN.out p.block hp).1))
    have LT9 := Lib.hid (show X9.heap.size = wq.heap.size from r4)
    clear r1 r2 r3 r4 hz9 ll z0 y0 z1 y1 z2 y2 z3 y3 z4 y4 z5 y5 z6 y6 z7 y7 z8 y8 z9 y9
    refine hK.out _ _ (Until.off (by kernel_rfl)) (fun hV => ?_)
    clear hK K
    clear hU; have hU := hV; clear hV
    try simp only [Act.put, aput]
    refine AnyU.done (by kernel_rfl) ?_
    clear hU
    have cf := (BQ.out.cell (p := ⟨bc, _, none⟩) lb8).trans HCF.out
    have lb9 := Nat.lt_of_lt_of_le lb8 BQ.out.size
    have BX9 := Lib.hid (BX8.out.under BQ.out BX8.out.lt)
    have D9 := Lib.hid (D8.out.under BQ.out D8.out.lt)
    have B9 := Lib.hid (B8.out.trans (BQ.out.mono B8.out.size))
    obtain ⟨o, ho⟩ : ∃ o, cc.ofType = o := ⟨_, rfl⟩
    have HOO := Lib.hid ho
    rw [ho] at cf ⊢
    clear ho
    cases o
    · go_upto_region 11 with fail
      have bl := BL9.out
      have bb := B9.out
      have bx := BX9.out
      have dd := D9.out
      have tm := TM9.out
      have lt := LT9.out
      generalize X9 = Xb at bl bb bx dd tm lt ⊢
      have hmb : ∀ b, _ → b < Xb.heap.size := fun b hb => by have := (HMN.out b hb).2; rw [lt]; exact this
      have HMb := Lib.hid hmb
      have BLb := Lib.hid bl
      have BBb := Lib.hid bb
      have BXb := Lib.hid bx
      have Db := Lib.hid dd
      have TYb := Lib.hid tm
      clear bl bb bx dd tm lt hmb cf lb9
      obtain ⟨n0, n1, n2, n3, n4⟩ := cellsN5 BXb.out
      have ln := BXb.out.lt
      go_upto_region 12 with fail
      clear n0 n1 n2 n3 n4 ln
      have ib := Blk.new Xb #[.string x.pkg, .int .i64 x.major, .string x.mod, .string { data := #[109] }] 55
      have hbi : Below Xb.heap.size Xb (Xb.alloc (.cells #[.string x.pkg, .int .i64 x.major, .string x.mod, .string { data := #[109] }] 55)) := (Below.refl _ _).alloc (Nat.le_refl _) _
      generalize Xb.alloc (.cells #[.string x.pkg, .int .i64 x.major, .string x.mod, .string { data := #[109] }] 55) = Xc at ib hbi ⊢
      generalize hgi : Xb.heap.size = gi at ib ⊢
      clear hgi
      have BLc := Lib.hid (BLb.out.under hbi BLb.out.lt)
      have BBc := Lib.hid (BBb.out.trans (hbi.mono BBb.out.size))
      have Dc := Lib.hid (Db.out.under hbi Db.out.lt)
      have TYc := Lib.hid (TYb.out.keep (w' := Xc) fun p hp => hbi.cell (HMb.out p.block hp))
      have HMc := Lib.hid (show ∀ b, _ → b < Xc.heap.size from fun b hb => Nat.lt_of_lt_of_le (HMb.out b hb) hbi.size)
      have IB := Lib.hid ib
      clear hbi ib
      obtain ⟨i0, i1, i2, i3⟩ := cellsC IB.out
      have li := IB.out.lt
      have z0 := BLc.out.cell 0
      have z1 := BLc.out.cell 1
      have z2 := BLc.out.cell 2
      have z3 := BLc.out.cell 3
      have z4 := BLc.out.cell 4
      have z5 := BLc.out.cell 5
      have z6 := BLc.out.cell 6
      have z7 := BLc.out.cell 7
      have z8 := BLc.out.cell 8
      have z9 := BLc.out.cell 9
      simp at z0 z1 z2 z3 z4 z5 z6 z7 z8 z9
      have ll := BLc.out.lt
      have d0 := Dc.out.cell 0
      have d1 := Dc.out.cell 1
      simp at d0 d1
      have fd0 := Dc.out.free 0
      have fd1 := Dc.out.free 1
      have ld := Dc.out.lt
      go_wp2_with fail
      have dz0 : Blk ((Xc.setCell ⟨w.heap.size, 0, none⟩ (.slice (some ⟨Xc.heap.size, 0, none⟩) 1 1)).setCell ⟨w.heap.size, 1, none⟩ (.slice (some ⟨Xc.heap.size + 1, 0, none⟩) 1 1)) w.heap.size #[(.slice (some ⟨Xc.heap.size, 0, none⟩) 1 1), (.slice (some ⟨Xc.heap.size + 1, 0, none⟩) 1 1)] 82 := by have := (Dc.out.set 0 (.slice (some ⟨Xc.heap.size, 0, none⟩) 1 1)).set 1 (.slice (some ⟨Xc.heap.size + 1, 0, none⟩) 1 1); simpa using this
      have hs0 : ((Xc.setCell ⟨w.heap.size, 0, none⟩ (.slice (some ⟨Xc.heap.size, 0, none⟩) 1 1)).setCell ⟨w.heap.size, 1, none⟩ (.slice (some ⟨Xc.heap.size + 1, 0, none⟩) 1 1)).heap.size = Xc.heap.size := (set_size _ _ _ _).trans (set_size _ _ _ _)
      have bS : Below w.heap.size w ((Xc.setCell ⟨w.heap.size, 0, none⟩ (.slice (some ⟨Xc.heap.size, 0, none⟩) 1 1)).setCell ⟨w.heap.size, 1, none⟩ (.slice (some ⟨Xc.heap.size + 1, 0, none⟩) 1 1)) := (BBc.out.setCell (p := ⟨w.heap.size, 0, none⟩) (Nat.le_refl _) _).setCell (p := ⟨w.heap.size, 1, none⟩) (Nat.le_refl _) _
      have tS := TYc.out.keep (w' := ((Xc.setCell ⟨w.heap.size, 0, none⟩ (.slice (some ⟨Xc.heap.size, 0, none⟩) 1 1)).setCell ⟨w.heap.size, 1, none⟩ (.slice (some ⟨Xc.heap.size + 1, 0, none⟩) 1 1))) fun p hp => (World.cell?_of_block ((set_heap _ _ _ _ (HNE.out p.block hp)).trans (set_heap _ _ _ _ (HNE.out p.block hp))))
      generalize ((Xc.setCell ⟨w.heap.size, 0, none⟩ (.slice (some ⟨Xc.heap.size, 0, none⟩) 1 1)).setCell ⟨w.heap.size, 1, none⟩ (.slice (some ⟨Xc.heap.size + 1, 0, none⟩) 1 1)) = X0 at dz0 hs0 bS tS ⊢
      obtain ⟨w1b, w2b, w3b, w4b⟩ := twoW X0 #[.string x.pkg, .int .i64 x.major, .string x.mod, .string { data := #[109] }] #[.int .i64 1, .string { data := #[109] }, .string cc.name, .int .i64 n.ty.kind, .string n.ty.pkg, .int .i64 n.ty.major, .string n.ty.mod, .string n.ty.name, .slice na2 n.ty.names.length nc2, .slice sa2 n.ty.subs.length sc2] 55 138
      have dz := dz0.under w4b dz0.lt
      have fb : Below w.heap.size w ((X0.alloc (.cells #[.string x.pkg, .int .i64 x.major, .string x.mod, .string { data := #[109] }] 55)).alloc (.cells #[.int .i64 1, .string { data := #[109] }, .string cc.name, .int .i64 n.ty.kind, .string n.ty.pkg, .int .i64 n.ty.major, .string n.ty.mod, .string n.ty.name, .slice na2 n.ty.names.length nc2, .slice sa2 n.ty.subs.length sc2] 138)) := bS.trans (w4b.mono bS.size)
      have ft := ((tS.keep (w' := ((X0.alloc (.cells #[.string x.pkg, .int .i64 x.major, .string x.mod, .string { data := #[109] }] 55)).alloc (.cells #[.int .i64 1, .string { data := #[109] }, .string cc.name, .int .i64 n.ty.kind, .string n.ty.pkg, .int .i64 n.ty.major, .string n.ty.mod, .string n.ty.name, .slice na2 n.ty.names.length nc2, .slice sa2 n.ty.subs.length sc2] 138))) fun p hp => w4b.cell (by rw [hs0]; exact HMc.out p.block hp)).mono fun b hb => (show b < (((X0.alloc (.cells #[.string x.pkg, .int .i64 x.major, .string x.mod, .string { data := #[109] }] 55)).alloc (.cells #[.int .i64 1, .string { data := #[109] }, .string cc.name, .int .i64 n.ty.kind, .string n.ty.pkg, .int .i64 n.ty.major, .string n.ty.mod, .string n.ty.name, .slice na2 n.ty.names.length nc2, .slice sa2 n.ty.subs.length sc2] 138))).heap.size by have := HMc.out b hb; rw [w3b, hs0]; omega)).toC
      have f1 := w1b
      have f2 := w2b
      rw [hs0] at f1 f2
      generalize ((X0.alloc (.cells #[.string x.pkg, .int .i64 x.major, .string x.mod, .string { data := #[109] }] 55)).alloc (.cells #[.int .i64 1, .string { data := #[109] }, .string cc.name, .int .i64 n.ty.kind, .string n.ty.pkg, .int .i64 n.ty.major, .string n.ty.mod, .string n.ty.name, .slice na2 n.ty.names.length nc2, .slice sa2 n.ty.subs.length sc2] 138)) = Wf at dz f1 f2 fb ft ⊢
      have r0 := dz.cell 0
      have r1 := dz.cell 1
      simp at r0 r1
      refine bodyPost_ret (by simp [results, Tryz.results43, go_sem, r0, r1, dz.lt]; try rfl) rfl ?_
      refine ⟨⟨_, rfl, Xc.heap.size, Xc.heap.size + 1, na2, nc2, sa2, sc2, rfl, f1, ?_, ?_⟩, fb⟩
      · show Blk Wf _ #[.int .i64 (if cc.ofType = true then 2 else 1), _, _, _, _, _, _, _, _, _] _
        rw [HOO.out]
        exact f2
      · exact ft
    · have z0 := BL9.out.cell 0
      have y0 := BL9.out.free 0
      have ll := BL9.out.lt
      simp at z0
      go_upto_region 11 with fail
      have bl : Blk (X9.setCell ⟨W.heap.size, 0, none⟩ (.int .i64 2)) W.heap.size #[.int .i64 2, .string { data := #[109] }, .string cc.name, .int .i64 n.ty.kind, .string n.ty.pkg, .int .i64 n.ty.major, .string n.ty.mod, .string n.ty.name, .slice na2 n.ty.names.length nc2, .slice sa2 n.ty.subs.length sc2] 138 := by have := BL9.out.set 0 (.int .i64 2); simpa using this
      have bb : Below w.heap.size w (X9.setCell ⟨W.heap.size, 0, none⟩ (.int .i64 2)) := B9.out.setCell (p := ⟨W.heap.size, 0, none⟩) (Nat.le_trans B8.out.size HG12.out) _
      have hnx : g10 ≠ W.heap.size := fun e => by have h1 := BX8.out.lt; have h2 := HG12.out; omega
      have hnd : w.heap.size ≠ W.heap.size := fun e => by have h1 := D8.out.lt; have h2 := HG12.out; omega
      have bx := BX9.out.far ⟨W.heap.size, 0, none⟩ (.int .i64 2) hnx
      have dd := D9.out.far ⟨W.heap.size, 0, none⟩ (.int .i64 2) hnd
      have tm := TM9.out.keep (w' := (X9.setCell ⟨W.heap.size, 0, none⟩ (.int .i64 2))) fun p hp => World.cell?_of_block (set_heap X9 W.heap.size 0 _ (HMN.out p.block hp).1)
      have lt : (X9.setCell ⟨W.heap.size, 0, none⟩ (.int .i64 2)).heap.size = wq.heap.size := (set_size _ _ _ _).trans LT9.out
      generalize (X9.setCell ⟨W.heap.size, 0, none⟩ (.int .i64 2)) = Xb at bl bb bx dd tm lt ⊢
      clear z0 y0 ll
      have hmb : ∀ b, _ → b < Xb.heap.size := fun b hb => by have := (HMN.out b hb).2; rw [lt]; exact this
      have HMb := Lib.hid hmb
      have BLb := Lib.hid bl
      have BBb := Lib.hid bb
      have BXb := Lib.hid bx
      have Db := Lib.hid dd
      have TYb := Lib.hid tm
      clear bl bb bx dd tm lt hmb cf lb9
      obtain ⟨n0, n1, n2, n3, n4⟩ := cellsN5 BXb.out
      have ln := BXb.out.lt
      go_upto_region 12 with fail
      clear n0 n1 n2 n3 n4 ln
      have ib := Blk.new Xb #[.string x.pkg, .int .i64 x.major, .string x.mod, .string { data := #[109] }] 55
      have hbi : Below Xb.heap.size Xb (Xb.alloc (.cells #[.string x.pkg, .int .i64 x.major, .string x.mod, .string { data := #[109] }] 55)) := (Below.refl _ _).alloc (Nat.le_refl _) _
      generalize Xb.alloc (.cells #[.string x.pkg, .int .i64 x.major, .string x.mod, .string { data := #[109] }] 55) = Xc at ib hbi ⊢
      generalize hgi : Xb.heap.size = gi at ib ⊢
      clear hgi
      have BLc := Lib.hid (BLb.out.under hbi BLb.out.lt)
      have BBc := Lib.hid (BBb.out.trans (hbi.mono BBb.out.size))
      have Dc := Lib.hid (Db.out.under hbi Db.out.lt)
      have TYc := Lib.hid (TYb.out.keep (w' := Xc) fun p hp => hbi.cell (HMb.out p.block hp))
      have HMc := Lib.hid (show ∀ b, _ → b < Xc.heap.size from fun b hb => Nat.lt_of_lt_of_le (HMb.out b hb) hbi.size)
      have IB := Lib.hid ib
      clear hbi ib
      obtain ⟨i0, i1, i2, i3⟩ := cellsC IB.out
      have li := IB.out.lt
      have z0 := BLc.out.cell 0
      have z1 := BLc.out.cell 1
      have z2 := BLc.out.cell 2
      have z3 := BLc.out.cell 3
      have z4 := BLc.out.cell 4
      have z5 := BLc.out.cell 5
      have z6 := BLc.out.cell 6
      have z7 := BLc.out.cell 7
      have z8 := BLc.out.cell 8
      have z9 := BLc.out.cell 9
      simp at z0 z1 z2 z3 z4 z5 z6 z7 z8 z9
      have ll := BLc.out.lt
      have d0 := Dc.out.cell 0
      have d1 := Dc.out.cell 1
      simp at d0 d1
      have fd0 := Dc.out.free 0
      have fd1 := Dc.out.free 1
      have ld := Dc.out.lt
      go_wp2_with fail
      have dz0 : Blk ((Xc.setCell ⟨w.heap.size, 0, none⟩ (.slice (some ⟨Xc.heap.size, 0, none⟩) 1 1)).setCell ⟨w.heap.size, 1, none⟩ (.slice (some ⟨Xc.heap.size + 1, 0, none⟩) 1 1)) w.heap.size #[(.slice (some ⟨Xc.heap.size, 0, none⟩) 1 1), (.slice (some ⟨Xc.heap.size + 1, 0, none⟩) 1 1)] 82 := by have := (Dc.out.set 0 (.slice (some ⟨Xc.heap.size, 0, none⟩) 1 1)).set 1 (.slice (some ⟨Xc.heap.size + 1, 0, none⟩) 1 1); simpa using this
      have hs0 : ((Xc.setCell ⟨w.heap.size, 0, none⟩ (.slice (some ⟨Xc.heap.size, 0, none⟩) 1 1)).setCell ⟨w.heap.size, 1, none⟩ (.slice (some ⟨Xc.heap.size + 1, 0, none⟩) 1 1)).heap.size = Xc.heap.size := (set_size _ _ _ _).trans (set_size _ _ _ _)
      have bS : Below w.heap.size w ((Xc.setCell ⟨w.heap.size, 0, none⟩ (.slice (some ⟨Xc.heap.size, 0, none⟩) 1 1)).setCell ⟨w.heap.size, 1, none⟩ (.slice (some ⟨Xc.heap.size + 1, 0, none⟩) 1 1)) := (BBc.out.setCell (p := ⟨w.heap.size, 0, none⟩) (Nat.le_refl _) _).setCell (p := ⟨w.heap.size, 1, none⟩) (Nat.le_refl _) _
      have tS := TYc.out.keep (w' := ((Xc.setCell ⟨w.heap.size, 0, none⟩ (.slice (some ⟨Xc.heap.size, 0, none⟩) 1 1)).setCell ⟨w.heap.size, 1, none⟩ (.slice (some ⟨Xc.heap.size + 1, 0, none⟩) 1 1))) fun p hp => (World.cell?_of_block ((set_heap _ _ _ _ (HNE.out p.block hp)).trans (set_heap _ _ _ _ (HNE.out p.block hp))))
      generalize ((Xc.setCell ⟨w.heap.size, 0, none⟩ (.slice (some ⟨Xc.heap.size, 0, none⟩) 1 1)).setCell ⟨w.heap.size, 1, none⟩ (.slice (some ⟨Xc.heap.size + 1, 0, none⟩) 1 1)) = X0 at dz0 hs0 bS tS ⊢
      obtain ⟨w1b, w2b, w3b, w4b⟩ := twoW X0 #[.string x.pkg, .int .i64 x.major, .string x.mod, .string { data := #[109] }] #[.int .i64 2, .string { data := #[109] }, .string cc.name, .int .i64 n.ty.kind, .string n.ty.pkg, .int .i64 n.ty.major, .string n.ty.mod, .string n.ty.name, .slice na2 n.ty.names.length nc2, .slice sa2 n.ty.subs.length sc2] 55 138
      have dz := dz0.under w4b dz0.lt
      have fb : Below w.heap.size w ((X0.alloc (.cells #[.string x.pkg, .int .i64 x.major, .string x.mod, .string { data := #[109] }] 55)).alloc (.cells #[.int .i64 2, .string { data := #[109] }, .string cc.name, .int .i64 n.ty.kind, .string n.ty.pkg, .int .i64 n.ty.major, .string n.ty.mod, .string n.ty.name, .slice na2 n.ty.names.length nc2, .slice sa2 n.ty.subs.length sc2] 138)) := bS.trans (w4b.mono bS.size)
      have ft := ((tS.keep (w' := ((X0.alloc (.cells #[.string x.pkg, .int .i64 x.major, .string x.mod, .string { data := #[109] }] 55)).alloc (.cells #[.int .i64 2, .string { data := #[109] }, .string cc.name, .int .i64 n.ty.kind, .string n.ty.pkg, .int .i64 n.ty.major, .string n.ty.mod, .string n.ty.name, .slice na2 n.ty.names.length nc2, .slice sa2 n.ty.subs.length sc2] 138))) fun p hp => w4b.cell (by rw [hs0]; exact HMc.out p.block hp)).mono fun b hb => (show b < (((X0.alloc (.cells #[.string x.pkg, .int .i64 x.major, .string x.mod, .string { data := #[109] }] 55)).alloc (.cells #[.int .i64 2, .string { data := #[109] }, .string cc.name, .int .i64 n.ty.kind, .string n.ty.pkg, .int .i64 n.ty.major, .string n.ty.mod, .string n.ty.name, .slice na2 n.ty.names.length nc2, .slice sa2 n.ty.subs.length sc2] 138))).heap.size by have := HMc.out b hb; rw [w3b, hs0]; omega)).toC
      have f1 := w1b
      have f2 := w2b
      rw [hs0] at f1 f2
      generalize ((X0.alloc (.cells #[.string x.pkg, .int .i64 x.major, .string x.mod, .string { data := #[109] }] 55)).alloc (.cells #[.int .i64 2, .string { data := #[109] }, .string cc.name, .int .i64 n.ty.kind, .string n.ty.pkg, .int .i64 n.ty.major, .string n.ty.mod, .string n.ty.name, .slice na2 n.ty.names.length nc2, .slice sa2 n.ty.subs.length sc2] 138)) = Wf at dz f1 f2 fb ft ⊢
      have r0 := dz.cell 0
      have r1 := dz.cell 1
      simp at r0 r1
      refine bodyPost_ret (by simp [results, Tryz.results43, go_sem, r0, r1, dz.lt]; try rfl) rfl ?_
      refine ⟨⟨_, rfl, Xc.heap.size, Xc.heap.size + 1, na2, nc2, sa2, sc2, rfl, f1, ?_, ?_⟩, fb⟩
      · show Blk Wf _ #[.int .i64 (if cc.ofType = true then 2 else 1), _, _, _, _, _, _, _, _, _] _
        rw [HOO.out]
        exact f2
      · exact ft
end Go.Proofs.YtjeldfipipkfiaaGreatDoor
