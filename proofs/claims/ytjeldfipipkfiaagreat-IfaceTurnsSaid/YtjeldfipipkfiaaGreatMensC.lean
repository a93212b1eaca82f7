/- The contract of scope.mentions: the names that a type mentions, all in all, as they are met. -/
import Derived.Test.YtjeldfipipkfiaaGreatGMent
import Derived.Test.YtjeldfipipkfiaaGreatGScope
import Derived.Test.YtjeldfipipkfiaaGreatGReg
namespace Go.Proofs.YtjeldfipipkfiaaGreat
open Go.RowKit
set_option linter.unusedSimpArgs false
set_option linter.unusedVariables false
theorem threeM (w : World) (C D E : Array Value) (S T U : TypeId) : Blk (((w.alloc (.cells C S)).alloc (.cells D T)).alloc (.cells E U)) w.heap.size C S ∧ Blk (((w.alloc (.cells C S)).alloc (.cells D T)).alloc (.cells E U)) (w.heap.size + 1) D T ∧ Blk (((w.alloc (.cells C S)).alloc (.cells D T)).alloc (.cells E U)) (w.heap.size + 1 + 1) E U ∧ (((w.alloc (.cells C S)).alloc (.cells D T)).alloc (.cells E U)).heap.size = w.heap.size + 1 + 1 + 1 ∧ Below w.heap.size w (((w.alloc (.cells C S)).alloc (.cells D T)).alloc (.cells E U)) := by
  have z1 : (w.alloc (.cells C S)).heap.size = w.heap.size + 1 := by simp
  have z2 : ((w.alloc (.cells C S)).alloc (.cells D T)).heap.size = w.heap.size + 1 + 1 := by simp
  have b1 := Blk.new (w.alloc (.cells C S)) D T
  have b2 := Blk.new ((w.alloc (.cells C S)).alloc (.cells D T)) E U
  rw [z1] at b1
  rw [z2] at b2
  exact ⟨((Blk.new w C S).alloc _).alloc _, b1.alloc _, b2, by simp, (((Below.refl w.heap.size w).alloc (Nat.le_refl _) _).alloc (by simp) _).alloc (by simp; omega) _⟩
theorem threeMX (w : World) (C D E : Array Value) (S T U : TypeId)  : ∃ W, W = (((w.alloc (.cells C S)).alloc (.cells D T)).alloc (.cells E U)) ∧ Blk W w.heap.size C S ∧ Blk W (w.heap.size + 1) D T ∧ Blk W (w.heap.size + 1 + 1) E U ∧ W.heap.size = w.heap.size + 1 + 1 + 1 ∧ Below w.heap.size w W :=
  ⟨_, rfl, threeM w C D E S T U⟩
theorem owns_low {w : World} {base base' e size n : Nat} {v : Value} {xs : List Value} (h : w.ownsRow base e size v n xs) (hb : base' ≤ base) : w.ownsRow base' e size v n xs := by
  obtain ⟨hl, h | ⟨g, cap, cur, h1, h2, h3⟩⟩ := h
  · exact ⟨hl, .inl h⟩
  · exact ⟨hl, .inr ⟨g, cap, cur, h1, Nat.le_trans hb h2, h3⟩⟩
set_option maxRecDepth 100000 in
set_option maxHeartbeats 8000000 in
theorem mentions_c (m : Mdl) (ia : Option Addr) (ic : Nat) (da : Option Addr) (dc B : Nat) (t : Ty) (cs : Array Value) (w : World) (hm : MdlC w B m ia ic da dc) (ht : TyC w B t cs) (hB : B ≤ w.heap.size) (hl : m.decls.length ≤ 1000000) :
    Calls Tryz.prog 136 #[.agg (mdlCells m ia ic da dc), .agg cs] w fun e w' => ∃ v, e = .returned v ∧ w'.ownsRow w.heap.size 9 1 v (mentF m.decls t).length ((mentF m.decls t).map .string) ∧ Below w.heap.size w w' := by
  obtain ⟨na, nc, sa, sc, f, rfl, hf, hn, hs, hnc, hsc, hsub⟩ := ht.inv
  have HT := Lib.hid ht
  have HM := Lib.hid hm
  clear ht hs hsub hn hf hm
  simp only [tyCells, mdlCells] at HT ⊢
  go_enter Tryz.func136, Tryz.ntmps136
  go_upto_region 2 with fail
  obtain ⟨W, hWq, b1, b2, b3, hz, hbel⟩ := threeMX w #[.string m.name, .slice ia m.imps.length ic, .slice da m.decls.length dc] #[.int .i64 t.kind, .string t.pkg, .int .i64 t.major, .string t.mod, .string t.name, .slice na t.names.length nc, .slice sa t.subs.length sc] #[.slice none 0 0] 25 53 50
  rewrite [← hWq]; clear hWq
  have hBW : B ≤ W.heap.size := Nat.le_trans hB hbel.size
  have hr0 : MentR m ia ic da dc B w.heap.size (w.heap.size + 1 + 1) [] (fun b => b = w.heap.size + 1 + 1) W :=
    ⟨hB, by omega, b1, HM.out.under (hbel.mono hB), List.nodup_nil, by simp, .slice none 0 0, b3, World.ownsRow_nil W _ _ _, by intro b; simp [Value.ownBlock]⟩
  have R0 := Lib.hid hr0
  have HB0 := Lib.hid hbel
  have HT0 := Lib.hid (HT.out.under (hbel.mono hB))
  have k0 := b2.cell 0
  have k1 := b2.cell 1
  have k2 := b2.cell 2
  have k3 := b2.cell 3
  have k4 := b2.cell 4
  have k5 := b2.cell 5
  have k6 := b2.cell 6
  simp at k0 k1 k2 k3 k4 k5 k6
  clear hr0 hbel b1 b2 b3
  have HC := Lib.hid (mentL_c m ia ic da dc B w.heap.size (w.heap.size + 1 + 1) t _ [] _ W HT0.out hBW R0.out hl)
  go_upto_region 4 with (go_at_call 132; refine HC.out.mono ?_; rintro e w1 ⟨rfl, M1, h1, h2, h3⟩; have R1 := Lib.hid h1; have N1 := Lib.hid h2; have F1 := Lib.hid h3; clear h1 h2 h3)
  clear HC k0 k1 k2 k3 k4 k5 k6
  go_wp2
  go_loopw [7] (fun iv wr => ∃ (k : Nat) (fu : Nat) (out : List ByteArray) (M2 : Nat → Prop), iv = .int .i64 k ∧ k ≤ out.length ∧ m.decls.length + 1 ≤ fu + k ∧ MentR m ia ic da dc B w.heap.size (w.heap.size + 1 + 1) out M2 wr ∧ (∀ b, M2 b → b = w.heap.size + 1 + 1 ∨ W.heap.size ≤ b) ∧ Fr (fun b => b = w.heap.size + 1 + 1) W wr ∧ mentL m.decls fu k out = mentF m.decls t) (fun iv _ => m.decls.length + 1 - (intOf iv).toNat)
  case atStart => exact ⟨0, m.decls.length + 1, _, M1, rfl, Nat.zero_le _, by omega, R1.out, N1.out, F1.out, rfl⟩
  case round =>
    rename World => wr
    obtain ⟨k, fu, out, M2, rfl, hk, hfu, hr, hn2, hf2, hlaw⟩ := hrel
    have hlen := hr.len
    have HR := Lib.hid hr
    obtain ⟨-, -, hbox, hmdl, -, hhas, v, hv, hown, hM⟩ := hr
    have HAS := Lib.hid hhas
    have HN2 := Lib.hid hn2
    have HF2 := Lib.hid hf2
    have lz0 := hv.lt
    have hBr : B ≤ wr.heap.size := Nat.le_trans hBW hf2.size
    obtain ⟨A, c, rfl, hsa, hcap⟩ := own_strs hown rfl
    have HO := Lib.hid hown
    have HSA := Lib.hid hsa
    have z0 := hv.cell 0
    simp at z0
    have hbe : Below w.heap.size W wr := hf2.below (fun b hb => by omega) (by have := HB0.out.size; omega)
    have HBE := Lib.hid (HB0.out.trans hbe)
    have HLAW := Lib.hid hlaw
    clear hsa hown hv hM hbe hlaw hhas hn2 hf2
    by_cases hlt : k < out.length
    · obtain ⟨x, hx⟩ : ∃ x, out[k] = x := ⟨_, rfl⟩
      have hxm : hasD m.decls x = true := HAS.out x (by rw [← hx]; exact List.getElem_mem hlt)
      obtain ⟨j, hj⟩ := Option.isSome_iff_exists.1 hxm
      obtain ⟨hjl, hjn, -⟩ := findD_name hj
      have hq : idxP (isT x) m.decls = ((j : Nat) : Int) := by rw [findF_idx, show findD m.decls x = some j from hj]
      obtain ⟨d, hd⟩ : ∃ d, m.decls[j] = d := ⟨_, rfl⟩
      have hnx : nextD m.decls x = if d.kind = 3 then localsT d.ty else [] := by rw [nextD_at hj hjl, hd]
      obtain ⟨b, o, rfl, hbB, c0⟩ := StrsAt.elem HSA.out hlt hx
      obtain ⟨hfd, bd, od, na', nc', sa', sc', hda, hbd, htd, e0, e1, e2, e3, e4, e5, e6, e7, e8⟩ := hmdl.decls.elem hjl hd
      obtain rfl := hda
      have hf := fun W1 (hb : Below wr.heap.size wr W1) => find_c m x ia ic (some ⟨bd, od, none⟩) dc B W1 (hmdl.under (hb.mono hBr)) (Nat.le_trans hBr hb.size) hl
      simp only [hq, mdlCells] at hf
      have HF := Lib.hid hf
      have HNX := Lib.hid hnx
      have HX := Lib.hid hx
      have HTD := Lib.hid htd
      have HMD := Lib.hid hmdl
      have x0 := hbox.cell 0
      have x1 := hbox.cell 1
      have x2 := hbox.cell 2
      simp [mdlCells] at x0 x1 x2
      have lg0 := hbox.lt
      have lg1 := lz0
      have lbb : b < wr.heap.size := hbB
      have lbd : bd < wr.heap.size := by omega
      have hltI : (k : Int) < (out.length : Int) := by omega
      have hjI : (j : Int) < (m.decls.length : Int) := by omega
      have hj0 : (0 : Int) ≤ (j : Int) := by omega
      clear hf hnx hx htd hmdl hbox hfd hj hjn hd hq
      go_upto_region 7 with fail
      go_cut [8] (fun v w7 => ∃ b7, v = .pointer (some ⟨b7, 0, none⟩) ∧ wr.heap.size ≤ b7 ∧ Blk w7 b7 #[.int .i64 d.kind, .string d.name, .int .i64 d.ty.kind, .string d.ty.pkg, .int .i64 d.ty.major, .string d.ty.mod, .string d.ty.name, .slice na' d.ty.names.length nc', .slice sa' d.ty.subs.length sc'] 55 ∧ Below wr.heap.size wr w7)
      case first =>
        refine wp_region_until [(7, fun w' => w'.cell? ⟨w.heap.size, 0, none⟩ = some (.string m.name) ∧ w'.cell? ⟨w.heap.size, 1, none⟩ = some (.slice ia m.imps.length ic) ∧ w'.cell? ⟨w.heap.size, 2, none⟩ = some (.slice (some ⟨bd, od, none⟩) m.decls.length dc) ∧ w'.cell? ⟨w.heap.size + 1 + 1, 0, none⟩ = some (.slice (some ⟨b, o, none⟩) out.length c) ∧ w'.cell? ⟨b, o + k, none⟩ = some (.string x)), (11, fun w' => w'.cell? ⟨w.heap.size, 2, none⟩ = some (.slice (some ⟨bd, od, none⟩) m.decls.length dc) ∧ w'.cell? ⟨bd, od + j * 9, none⟩ = some (.int .i64 d.kind) ∧ w'.cell? ⟨bd, od + j * 9 + 1, none⟩ = some (.string d.name) ∧ w'.cell? ⟨bd, od + j * 9 + 2, none⟩ = some (.int .i64 d.ty.kind) ∧ w'.cell? ⟨bd, od + j * 9 + 3, none⟩ = some (.string d.ty.pkg) ∧ w'.cell? ⟨bd, od + j * 9 + 4, none⟩ = some (.int .i64 d.ty.major) ∧ w'.cell? ⟨bd, od + j * 9 + 5, none⟩ = some (.string d.ty.mod) ∧ w'.cell? ⟨bd, od + j * 9 + 6, none⟩ = some (.string d.ty.name) ∧ w'.cell? ⟨bd, od + j * 9 + 7, none⟩ = some (.slice na' d.ty.names.length nc') ∧ w'.cell? ⟨bd, od + j * 9 + 8, none⟩ = some (.slice sa' d.ty.subs.length sc'))] (by kernel_rfl) (Until.cons (fun _ => ⟨x0, x1, x2, z0, c0⟩) (Until.cons (fun _ => ⟨x2, e0, e1, e2, e3, e4, e5, e6, e7, e8⟩) Until.nil)) (fun hU => ?_)
        refine AnyU.take (i := 0) (v := ?_) rfl (by kernel_rfl) (by kernel_rfl) (by kernel_rfl) (fun _ _ _ h => h) (by kernel_rfl) (by assumption) (by rfl) ?_ (fun hV => ?_)
        rotate_left 1
        · (intro wq; go_simp; try with_reducible rfl)
        clear hU; have hU := hV; clear hV
        try simp only [Act.put, aput]
        refine AnyU.loadc (i := 1) (d := 11) [8, 9, 11] (Si := fun w' => w'.cell? ⟨w.heap.size, 2, none⟩ = some (.slice (some ⟨bd, od, none⟩) m.decls.length dc) ∧ w'.cell? ⟨bd, od + j * 9, none⟩ = some (.int .i64 d.kind) ∧ w'.cell? ⟨bd, od + j * 9 + 1, none⟩ = some (.string d.name) ∧ w'.cell? ⟨bd, od + j * 9 + 2, none⟩ = some (.int .i64 d.ty.kind) ∧ w'.cell? ⟨bd, od + j * 9 + 3, none⟩ = some (.string d.ty.pkg) ∧ w'.cell? ⟨bd, od + j * 9 + 4, none⟩ = some (.int .i64 d.ty.major) ∧ w'.cell? ⟨bd, od + j * 9 + 5, none⟩ = some (.string d.ty.mod) ∧ w'.cell? ⟨bd, od + j * 9 + 6, none⟩ = some (.string d.ty.name) ∧ w'.cell? ⟨bd, od + j * 9 + 7, none⟩ = some (.slice na' d.ty.names.length nc') ∧ w'.cell? ⟨bd, od + j * 9 + 8, none⟩ = some (.slice sa' d.ty.subs.length sc')) (v := ?_) rfl (by kernel_rfl) (by kernel_rfl) (by kernel_rfl) (fun _ _ _ h => h) (by kernel_rfl) (by assumption) (by kernel_rfl) rfl (by simp) (by rfl) ?_ (fun hV => ?_)
        rotate_left 1
        · (intro wq hq; obtain ⟨u, -⟩ := hq; go_simp; try with_reducible rfl)
        clear hU; have hU := hV; clear hV
        try simp only [Act.put, aput]
        refine AnyU.loadc (i := 2) (d := 7) [7] (Si := fun w' => w'.cell? ⟨w.heap.size, 0, none⟩ = some (.string m.name) ∧ w'.cell? ⟨w.heap.size, 1, none⟩ = some (.slice ia m.imps.length ic) ∧ w'.cell? ⟨w.heap.size, 2, none⟩ = some (.slice (some ⟨bd, od, none⟩) m.decls.length dc) ∧ w'.cell? ⟨w.heap.size + 1 + 1, 0, none⟩ = some (.slice (some ⟨b, o, none⟩) out.length c) ∧ w'.cell? ⟨b, o + k, none⟩ = some (.string x)) (v := ?_) rfl (by kernel_rfl) (by kernel_rfl) (by kernel_rfl) (fun _ _ _ h => h) (by kernel_rfl) (by assumption) (by kernel_rfl) rfl (by simp) (by rfl) ?_ (fun hV => ?_)
        rotate_left 1
        · (intro wq hq; obtain ⟨u0, u1, u2, -⟩ := hq; go_simp; try with_reducible rfl)
        clear hU; have hU := hV; clear hV
        try simp only [Act.put, aput]
        refine AnyU.loadc (i := 3) (d := 7) [5, 6, 7] (Si := fun w' => w'.cell? ⟨w.heap.size, 0, none⟩ = some (.string m.name) ∧ w'.cell? ⟨w.heap.size, 1, none⟩ = some (.slice ia m.imps.length ic) ∧ w'.cell? ⟨w.heap.size, 2, none⟩ = some (.slice (some ⟨bd, od, none⟩) m.decls.length dc) ∧ w'.cell? ⟨w.heap.size + 1 + 1, 0, none⟩ = some (.slice (some ⟨b, o, none⟩) out.length c) ∧ w'.cell? ⟨b, o + k, none⟩ = some (.string x)) (v := ?_) rfl (by kernel_rfl) (by kernel_rfl) (by kernel_rfl) (fun _ _ _ h => h) (by kernel_rfl) (by assumption) (by kernel_rfl) rfl (by simp) (by rfl) ?_ (fun hV => ?_)
        rotate_left 1
        · (intro wq hq; obtain ⟨-, -, -, u, -⟩ := hq; go_simp; try with_reducible rfl)
        clear hU; have hU := hV; clear hV
        try simp only [Act.put, aput]
        refine AnyU.take (i := 4) (v := ?_) rfl (by kernel_rfl) (by kernel_rfl) (by kernel_rfl) (fun _ _ _ h => h) (by kernel_rfl) (by assumption) (by rfl) ?_ (fun hV => ?_)
        rotate_left 1
        · (intro wq; go_simp; try with_reducible rfl)
        clear hU; have hU := hV; clear hV
        try simp only [Act.put, aput]
        refine AnyU.take (i := 5) (v := ?_) rfl (by kernel_rfl) (by kernel_rfl) (by kernel_rfl) (fun _ _ _ h => h) (by kernel_rfl) (by assumption) (by rfl) ?_ (fun hV => ?_)
        rotate_left 1
        · (intro wq; go_simp; try with_reducible rfl)
        clear hU; have hU := hV; clear hV
        try simp only [Act.put, aput]
        refine AnyU.loadc (i := 6) (d := 7) [7] (Si := fun w' => w'.cell? ⟨w.heap.size, 0, none⟩ = some (.string m.name) ∧ w'.cell? ⟨w.heap.size, 1, none⟩ = some (.slice ia m.imps.length ic) ∧ w'.cell? ⟨w.heap.size, 2, none⟩ = some (.slice (some ⟨bd, od, none⟩) m.decls.length dc) ∧ w'.cell? ⟨w.heap.size + 1 + 1, 0, none⟩ = some (.slice (some ⟨b, o, none⟩) out.length c) ∧ w'.cell? ⟨b, o + k, none⟩ = some (.string x)) (v := ?_) rfl (by kernel_rfl) (by kernel_rfl) (by kernel_rfl) (fun _ _ _ h => h) (by kernel_rfl) (by assumption) (by kernel_rfl) rfl (by simp) (by rfl) ?_ (fun hV => ?_)
        rotate_left 1
        · (intro wq hq; obtain ⟨-, -, -, -, u⟩ := hq; go_simp; try with_reducible rfl)
        clear hU; have hU := hV; clear hV
        try simp only [Act.put, aput]
        refine AnyU.ready2 (i := 7) (j := 10) (by kernel_rfl) (AnyU.one rfl fun K hK => ?_) (AnyU.one rfl fun K hK => ?_)
        · go_simp
          go_at_call 135
          refine (HF.out wr.drew ((Below.refl wr.heap.size wr).drew)).mono ?_
          rintro e w2 ⟨rfl, hb⟩
          have hb2 : Below wr.heap.size wr w2 := (Below.refl _ _).drew.trans hb
          clear hb
          have x2 := (hb2.cell (p := ⟨w.heap.size, 2, none⟩) lg0).trans x2
          have e0 := (hb2.cell (p := ⟨bd, od + j * 9, none⟩) lbd).trans e0
          have e1 := (hb2.cell (p := ⟨bd, od + j * 9 + 1, none⟩) lbd).trans e1
          have e2 := (hb2.cell (p := ⟨bd, od + j * 9 + 2, none⟩) lbd).trans e2
          have e3 := (hb2.cell (p := ⟨bd, od + j * 9 + 3, none⟩) lbd).trans e3
          have e4 := (hb2.cell (p := ⟨bd, od + j * 9 + 4, none⟩) lbd).trans e4
          have e5 := (hb2.cell (p := ⟨bd, od + j * 9 + 5, none⟩) lbd).trans e5
          have e6 := (hb2.cell (p := ⟨bd, od + j * 9 + 6, none⟩) lbd).trans e6
          have e7 := (hb2.cell (p := ⟨bd, od + j * 9 + 7, none⟩) lbd).trans e7
          have e8 := (hb2.cell (p := ⟨bd, od + j * 9 + 8, none⟩) lbd).trans e8
          clear hU
          have HB2 := Lib.hid hb2
          clear hb2
          refine hK.out _ _ (Until.cons (fun h => absurd h (by decide)) (Until.cons (fun _ => ⟨x2, e0, e1, e2, e3, e4, e5, e6, e7, e8⟩) Until.nil)) (fun hV => ?_)
          clear hK K
          have hU := hV
          clear hV
          try simp only [Act.put, aput]
          refine AnyU.take (i := 8) (v := ?_) rfl (by kernel_rfl) (by kernel_rfl) (by kernel_rfl) (fun _ _ _ h => h) (by kernel_rfl) (by assumption) (by rfl) ?_ (fun hV => ?_)
          rotate_left 1
          · (intro wq; go_simp; try with_reducible rfl)
          clear hU; have hU := hV; clear hV
          try simp only [Act.put, aput]
          refine AnyU.loadc (i := 9) (d := 11) [11] (Si := fun w' => w'.cell? ⟨w.heap.size, 2, none⟩ = some (.slice (some ⟨bd, od, none⟩) m.decls.length dc) ∧ w'.cell? ⟨bd, od + j * 9, none⟩ = some (.int .i64 d.kind) ∧ w'.cell? ⟨bd, od + j * 9 + 1, none⟩ = some (.string d.name) ∧ w'.cell? ⟨bd, od + j * 9 + 2, none⟩ = some (.int .i64 d.ty.kind) ∧ w'.cell? ⟨bd, od + j * 9 + 3, none⟩ = some (.string d.ty.pkg) ∧ w'.cell? ⟨bd, od + j * 9 + 4, none⟩ = some (.int .i64 d.ty.major) ∧ w'.cell? ⟨bd, od + j * 9 + 5, none⟩ = some (.string d.ty.mod) ∧ w'.cell? ⟨bd, od + j * 9 + 6, none⟩ = some (.string d.ty.name) ∧ w'.cell? ⟨bd, od + j * 9 + 7, none⟩ = some (.slice na' d.ty.names.length nc') ∧ w'.cell? ⟨bd, od + j * 9 + 8, none⟩ = some (.slice sa' d.ty.subs.length sc')) (v := ?_) rfl (by kernel_rfl) (by kernel_rfl) (by kernel_rfl) (fun _ _ _ h => h) (by kernel_rfl) (by assumption) (by kernel_rfl) rfl (by simp) (by rfl) ?_ (fun hV => ?_)
          rotate_left 1
          · (intro wq hq; obtain ⟨-, u0, u1, u2, u3, u4, u5, u6, u7, u8⟩ := hq; go_simp; try with_reducible rfl)
          clear hU; have hU := hV; clear hV
          try simp only [Act.put, aput]
          refine AnyU.ready1 (i := 10) (by kernel_rfl) (AnyU.one rfl fun K hK => ?_)
          go_simp
          obtain ⟨zb, hbz, hzs⟩ := laidN w2 #[.int .i64 0, .string { data := #[] }, .int .i64 0, .string { data := #[] }, .int .i64 0, .string { data := #[] }, .string { data := #[] }, .slice none 0 0, .slice none 0 0] 55
          generalize hX3 : w2.alloc (.cells #[.int .i64 0, .string { data := #[] }, .int .i64 0, .string { data := #[] }, .int .i64 0, .string { data := #[] }, .string { data := #[] }, .slice none 0 0, .slice none 0 0] 55) = X3 at zb hbz hzs ⊢
          clear hX3
          have lg02 := Nat.lt_of_lt_of_le lg0 HB2.out.size
          have lbd2 := Nat.lt_of_lt_of_le lbd HB2.out.size
          have x2 := (hbz.cell (p := ⟨w.heap.size, 2, none⟩) lg02).trans x2
          have e0 := (hbz.cell (p := ⟨bd, od + j * 9, none⟩) lbd2).trans e0
          have e1 := (hbz.cell (p := ⟨bd, od + j * 9 + 1, none⟩) lbd2).trans e1
          have e2 := (hbz.cell (p := ⟨bd, od + j * 9 + 2, none⟩) lbd2).trans e2
          have e3 := (hbz.cell (p := ⟨bd, od + j * 9 + 3, none⟩) lbd2).trans e3
          have e4 := (hbz.cell (p := ⟨bd, od + j * 9 + 4, none⟩) lbd2).trans e4
          have e5 := (hbz.cell (p := ⟨bd, od + j * 9 + 5, none⟩) lbd2).trans e5
          have e6 := (hbz.cell (p := ⟨bd, od + j * 9 + 6, none⟩) lbd2).trans e6
          have e7 := (hbz.cell (p := ⟨bd, od + j * 9 + 7, none⟩) lbd2).trans e7
          have e8 := (hbz.cell (p := ⟨bd, od + j * 9 + 8, none⟩) lbd2).trans e8
          clear hU
          refine hK.out _ _ (Until.cons (fun h => absurd h (by decide)) (Until.cons (fun _ => ⟨x2, e0, e1, e2, e3, e4, e5, e6, e7, e8⟩) Until.nil)) (fun hV => ?_)
          clear hK K
          have hU := hV
          clear hV
          try simp only [Act.put, aput]
          have hbX : Below wr.heap.size wr X3 := HB2.out.trans (hbz.mono HB2.out.size)
          have hgz : wr.heap.size ≤ w2.heap.size := HB2.out.size
          have d0 := zb.cell 0
          have f0 := zb.free 0
          have d1 := zb.cell 1
          have f1 := zb.free 1
          have d2 := zb.cell 2
          have f2 := zb.free 2
          have d3 := zb.cell 3
          have f3 := zb.free 3
          have d4 := zb.cell 4
          have f4 := zb.free 4
          have d5 := zb.cell 5
          have f5 := zb.free 5
          have d6 := zb.cell 6
          have f6 := zb.free 6
          have d7 := zb.cell 7
          have f7 := zb.free 7
          have d8 := zb.cell 8
          have f8 := zb.free 8
          simp at d0 d1 d2 d3 d4 d5 d6 d7 d8
          have ld := zb.lt
          clear x2 e0 e1 e2 e3 e4 e5 e6 e7 e8
          refine AnyU.ready1 (i := 11) (by kernel_rfl) (AnyU.one rfl fun K hK => ?_)
          go_simp
          have bf : Blk (((((((((X3.setCell ⟨w2.heap.size, 0, none⟩ (.int .i64 d.kind)).setCell ⟨w2.heap.size, 1, none⟩ (.string d.name)).setCell ⟨w2.heap.size, 2, none⟩ (.int .i64 d.ty.kind)).setCell ⟨w2.heap.size, 3, none⟩ (.string d.ty.pkg)).setCell ⟨w2.heap.size, 4, none⟩ (.int .i64 d.ty.major)).setCell ⟨w2.heap.size, 5, none⟩ (.string d.ty.mod)).setCell ⟨w2.heap.size, 6, none⟩ (.string d.ty.name)).setCell ⟨w2.heap.size, 7, none⟩ (.slice na' d.ty.names.length nc')).setCell ⟨w2.heap.size, 8, none⟩ (.slice sa' d.ty.subs.length sc')) (w2.heap.size) #[.int .i64 d.kind, .string d.name, .int .i64 d.ty.kind, .string d.ty.pkg, .int .i64 d.ty.major, .string d.ty.mod, .string d.ty.name, .slice na' d.ty.names.length nc', .slice sa' d.ty.subs.length sc'] 55 := by have := (((((((((zb.set 0 (.int .i64 d.kind)).set 1 (.string d.name)).set 2 (.int .i64 d.ty.kind)).set 3 (.string d.ty.pkg)).set 4 (.int .i64 d.ty.major)).set 5 (.string d.ty.mod)).set 6 (.string d.ty.name)).set 7 (.slice na' d.ty.names.length nc')).set 8 (.slice sa' d.ty.subs.length sc')); simpa using this
          have bb : Below wr.heap.size wr (((((((((X3.setCell ⟨w2.heap.size, 0, none⟩ (.int .i64 d.kind)).setCell ⟨w2.heap.size, 1, none⟩ (.string d.name)).setCell ⟨w2.heap.size, 2, none⟩ (.int .i64 d.ty.kind)).setCell ⟨w2.heap.size, 3, none⟩ (.string d.ty.pkg)).setCell ⟨w2.heap.size, 4, none⟩ (.int .i64 d.ty.major)).setCell ⟨w2.heap.size, 5, none⟩ (.string d.ty.mod)).setCell ⟨w2.heap.size, 6, none⟩ (.string d.ty.name)).setCell ⟨w2.heap.size, 7, none⟩ (.slice na' d.ty.names.length nc')).setCell ⟨w2.heap.size, 8, none⟩ (.slice sa' d.ty.subs.length sc')) := hbX.trans ((((((((((Below.refl wr.heap.size X3).setCell (p := ⟨w2.heap.size, 0, none⟩) hgz (.int .i64 d.kind)).setCell (p := ⟨w2.heap.size, 1, none⟩) hgz (.string d.name)).setCell (p := ⟨w2.heap.size, 2, none⟩) hgz (.int .i64 d.ty.kind)).setCell (p := ⟨w2.heap.size, 3, none⟩) hgz (.string d.ty.pkg)).setCell (p := ⟨w2.heap.size, 4, none⟩) hgz (.int .i64 d.ty.major)).setCell (p := ⟨w2.heap.size, 5, none⟩) hgz (.string d.ty.mod)).setCell (p := ⟨w2.heap.size, 6, none⟩) hgz (.string d.ty.name)).setCell (p := ⟨w2.heap.size, 7, none⟩) hgz (.slice na' d.ty.names.length nc')).setCell (p := ⟨w2.heap.size, 8, none⟩) hgz (.slice sa' d.ty.subs.length sc'))
          generalize (((((((((X3.setCell ⟨w2.heap.size, 0, none⟩ (.int .i64 d.kind)).setCell ⟨w2.heap.size, 1, none⟩ (.string d.name)).setCell ⟨w2.heap.size, 2, none⟩ (.int .i64 d.ty.kind)).setCell ⟨w2.heap.size, 3, none⟩ (.string d.ty.pkg)).setCell ⟨w2.heap.size, 4, none⟩ (.int .i64 d.ty.major)).setCell ⟨w2.heap.size, 5, none⟩ (.string d.ty.mod)).setCell ⟨w2.heap.size, 6, none⟩ (.string d.ty.name)).setCell ⟨w2.heap.size, 7, none⟩ (.slice na' d.ty.names.length nc')).setCell ⟨w2.heap.size, 8, none⟩ (.slice sa' d.ty.subs.length sc')) = Wf at bf bb ⊢
          refine hK.out _ _ (Until.offT (by kernel_rfl)) (fun hV => ?_)
          clear hK K
          clear hU; have hU := hV; clear hV
          try simp only [Act.put, aput]
          refine AnyU.done (by kernel_rfl) ?_
          go_wp2_with fail
          go_meet
          exact ⟨_, rfl, hgz, bf, bb⟩
        · go_simp
          obtain ⟨zb, hbz, hzs⟩ := laidD wr #[.int .i64 0, .string { data := #[] }, .int .i64 0, .string { data := #[] }, .int .i64 0, .string { data := #[] }, .string { data := #[] }, .slice none 0 0, .slice none 0 0] 55
          generalize hX3 : (wr.alloc (.cells #[.int .i64 0, .string { data := #[] }, .int .i64 0, .string { data := #[] }, .int .i64 0, .string { data := #[] }, .string { data := #[] }, .slice none 0 0, .slice none 0 0] 55)).drew = X3 at zb hbz hzs ⊢
          clear hX3
          have hbx3 : Below wr.heap.size wr X3 := hbz
          have HBX := Lib.hid hbx3
          have x0 := (hbx3.cell (p := ⟨w.heap.size, 0, none⟩) lg0).trans x0
          have x1 := (hbx3.cell (p := ⟨w.heap.size, 1, none⟩) lg0).trans x1
          have z0 := (hbx3.cell (p := ⟨w.heap.size + 1 + 1, 0, none⟩) lg1).trans z0
          have c0 := (hbx3.cell (p := ⟨b, o + k, none⟩) lbb).trans c0
          have x2 := (hbx3.cell (p := ⟨w.heap.size, 2, none⟩) lg0).trans x2
          have e0 := (hbx3.cell (p := ⟨bd, od + j * 9, none⟩) lbd).trans e0
          have e1 := (hbx3.cell (p := ⟨bd, od + j * 9 + 1, none⟩) lbd).trans e1
          have e2 := (hbx3.cell (p := ⟨bd, od + j * 9 + 2, none⟩) lbd).trans e2
          have e3 := (hbx3.cell (p := ⟨bd, od + j * 9 + 3, none⟩) lbd).trans e3
          have e4 := (hbx3.cell (p := ⟨bd, od + j * 9 + 4, none⟩) lbd).trans e4
          have e5 := (hbx3.cell (p := ⟨bd, od + j * 9 + 5, none⟩) lbd).trans e5
          have e6 := (hbx3.cell (p := ⟨bd, od + j * 9 + 6, none⟩) lbd).trans e6
          have e7 := (hbx3.cell (p := ⟨bd, od + j * 9 + 7, none⟩) lbd).trans e7
          have e8 := (hbx3.cell (p := ⟨bd, od + j * 9 + 8, none⟩) lbd).trans e8
          clear hU
          refine hK.out _ _ (Until.cons (fun _ => ⟨x0, x1, x2, z0, c0⟩) (Until.cons (fun _ => ⟨x2, e0, e1, e2, e3, e4, e5, e6, e7, e8⟩) Until.nil)) (fun hV => ?_)
          clear hK K hbx3 hbz
          have hU := hV
          clear hV
          try simp only [Act.put, aput]
          refine AnyU.ready1 (i := 7) (by kernel_rfl) (AnyU.one rfl fun K hK => ?_)
          go_simp
          go_at_call 135
          refine (HF.out X3 HBX.out).mono ?_
          rintro e w2 ⟨rfl, hb⟩
          have lg02 := Nat.lt_of_lt_of_le lg0 HBX.out.size
          have lbd2 := Nat.lt_of_lt_of_le lbd HBX.out.size
          have x2 := (hb.cell (p := ⟨w.heap.size, 2, none⟩) lg02).trans x2
          have e0 := (hb.cell (p := ⟨bd, od + j * 9, none⟩) lbd2).trans e0
          have e1 := (hb.cell (p := ⟨bd, od + j * 9 + 1, none⟩) lbd2).trans e1
          have e2 := (hb.cell (p := ⟨bd, od + j * 9 + 2, none⟩) lbd2).trans e2
          have e3 := (hb.cell (p := ⟨bd, od + j * 9 + 3, none⟩) lbd2).trans e3
          have e4 := (hb.cell (p := ⟨bd, od + j * 9 + 4, none⟩) lbd2).trans e4
          have e5 := (hb.cell (p := ⟨bd, od + j * 9 + 5, none⟩) lbd2).trans e5
          have e6 := (hb.cell (p := ⟨bd, od + j * 9 + 6, none⟩) lbd2).trans e6
          have e7 := (hb.cell (p := ⟨bd, od + j * 9 + 7, none⟩) lbd2).trans e7
          have e8 := (hb.cell (p := ⟨bd, od + j * 9 + 8, none⟩) lbd2).trans e8
          clear hU
          have zb := zb.under hb zb.lt
          have hbX : Below wr.heap.size wr w2 := HBX.out.trans (hb.mono HBX.out.size)
          clear hb
          refine hK.out _ _ (Until.cons (fun h => absurd h (by decide)) (Until.cons (fun _ => ⟨x2, e0, e1, e2, e3, e4, e5, e6, e7, e8⟩) Until.nil)) (fun hV => ?_)
          clear hK K
          have hU := hV
          clear hV
          try simp only [Act.put, aput]
          refine AnyU.take (i := 8) (v := ?_) rfl (by kernel_rfl) (by kernel_rfl) (by kernel_rfl) (fun _ _ _ h => h) (by kernel_rfl) (by assumption) (by rfl) ?_ (fun hV => ?_)
          rotate_left 1
          · (intro wq; go_simp; try with_reducible rfl)
          clear hU; have hU := hV; clear hV
          try simp only [Act.put, aput]
          refine AnyU.loadc (i := 9) (d := 11) [11] (Si := fun w' => w'.cell? ⟨w.heap.size, 2, none⟩ = some (.slice (some ⟨bd, od, none⟩) m.decls.length dc) ∧ w'.cell? ⟨bd, od + j * 9, none⟩ = some (.int .i64 d.kind) ∧ w'.cell? ⟨bd, od + j * 9 + 1, none⟩ = some (.string d.name) ∧ w'.cell? ⟨bd, od + j * 9 + 2, none⟩ = some (.int .i64 d.ty.kind) ∧ w'.cell? ⟨bd, od + j * 9 + 3, none⟩ = some (.string d.ty.pkg) ∧ w'.cell? ⟨bd, od + j * 9 + 4, none⟩ = some (.int .i64 d.ty.major) ∧ w'.cell? ⟨bd, od + j * 9 + 5, none⟩ = some (.string d.ty.mod) ∧ w'.cell? ⟨bd, od + j * 9 + 6, none⟩ = some (.string d.ty.name) ∧ w'.cell? ⟨bd, od + j * 9 + 7, none⟩ = some (.slice na' d.ty.names.length nc') ∧ w'.cell? ⟨bd, od + j * 9 + 8, none⟩ = some (.slice sa' d.ty.subs.length sc')) (v := ?_) rfl (by kernel_rfl) (by kernel_rfl) (by kernel_rfl) (fun _ _ _ h => h) (by kernel_rfl) (by assumption) (by kernel_rfl) rfl (by simp) (by rfl) ?_ (fun hV => ?_)
          rotate_left 1
          · (intro wq hq; obtain ⟨-, u0, u1, u2, u3, u4, u5, u6, u7, u8⟩ := hq; go_simp; try with_reducible rfl)
          clear hU; have hU := hV; clear hV
          try simp only [Act.put, aput]
          have hgz : wr.heap.size ≤ wr.heap.size := Nat.le_refl _
          have d0 := zb.cell 0
          have f0 := zb.free 0
          have d1 := zb.cell 1
          have f1 := zb.free 1
          have d2 := zb.cell 2
          have f2 := zb.free 2
          have d3 := zb.cell 3
          have f3 := zb.free 3
          have d4 := zb.cell 4
          have f4 := zb.free 4
          have d5 := zb.cell 5
          have f5 := zb.free 5
          have d6 := zb.cell 6
          have f6 := zb.free 6
          have d7 := zb.cell 7
          have f7 := zb.free 7
          have d8 := zb.cell 8
          have f8 := zb.free 8
          simp at d0 d1 d2 d3 d4 d5 d6 d7 d8
          have ld := zb.lt
          clear x2 e0 e1 e2 e3 e4 e5 e6 e7 e8
          refine AnyU.ready1 (i := 11) (by kernel_rfl) (AnyU.one rfl fun K hK => ?_)
          go_simp
          have bf : Blk (((((((((w2.setCell ⟨wr.heap.size, 0, none⟩ (.int .i64 d.kind)).setCell ⟨wr.heap.size, 1, none⟩ (.string d.name)).setCell ⟨wr.heap.size, 2, none⟩ (.int .i64 d.ty.kind)).setCell ⟨wr.heap.size, 3, none⟩ (.string d.ty.pkg)).setCell ⟨wr.heap.size, 4, none⟩ (.int .i64 d.ty.major)).setCell ⟨wr.heap.size, 5, none⟩ (.string d.ty.mod)).setCell ⟨wr.heap.size, 6, none⟩ (.string d.ty.name)).setCell ⟨wr.heap.size, 7, none⟩ (.slice na' d.ty.names.length nc')).setCell ⟨wr.heap.size, 8, none⟩ (.slice sa' d.ty.subs.length sc')) (wr.heap.size) #[.int .i64 d.kind, .string d.name, .int .i64 d.ty.kind, .string d.ty.pkg, .int .i64 d.ty.major, .string d.ty.mod, .string d.ty.name, .slice na' d.ty.names.length nc', .slice sa' d.ty.subs.length sc'] 55 := by have := (((((((((zb.set 0 (.int .i64 d.kind)).set 1 (.string d.name)).set 2 (.int .i64 d.ty.kind)).set 3 (.string d.ty.pkg)).set 4 (.int .i64 d.ty.major)).set 5 (.string d.ty.mod)).set 6 (.string d.ty.name)).set 7 (.slice na' d.ty.names.length nc')).set 8 (.slice sa' d.ty.subs.length sc')); simpa using this
          have bb : Below wr.heap.size wr (((((((((w2.setCell ⟨wr.heap.size, 0, none⟩ (.int .i64 d.kind)).setCell ⟨wr.heap.size, 1, none⟩ (.string d.name)).setCell ⟨wr.heap.size, 2, none⟩ (.int .i64 d.ty.kind)).setCell ⟨wr.heap.size, 3, none⟩ (.string d.ty.pkg)).setCell ⟨wr.heap.size, 4, none⟩ (.int .i64 d.ty.major)).setCell ⟨wr.heap.size, 5, none⟩ (.string d.ty.mod)).setCell ⟨wr.heap.size, 6, none⟩ (.string d.ty.name)).setCell ⟨wr.heap.size, 7, none⟩ (.slice na' d.ty.names.length nc')).setCell ⟨wr.heap.size, 8, none⟩ (.slice sa' d.ty.subs.length sc')) := hbX.trans ((((((((((Below.refl wr.heap.size w2).setCell (p := ⟨wr.heap.size, 0, none⟩) hgz (.int .i64 d.kind)).setCell (p := ⟨wr.heap.size, 1, none⟩) hgz (.string d.name)).setCell (p := ⟨wr.heap.size, 2, none⟩) hgz (.int .i64 d.ty.kind)).setCell (p := ⟨wr.heap.size, 3, none⟩) hgz (.string d.ty.pkg)).setCell (p := ⟨wr.heap.size, 4, none⟩) hgz (.int .i64 d.ty.major)).setCell (p := ⟨wr.heap.size, 5, none⟩) hgz (.string d.ty.mod)).setCell (p := ⟨wr.heap.size, 6, none⟩) hgz (.string d.ty.name)).setCell (p := ⟨wr.heap.size, 7, none⟩) hgz (.slice na' d.ty.names.length nc')).setCell (p := ⟨wr.heap.size, 8, none⟩) hgz (.slice sa' d.ty.subs.length sc'))
          generalize (((((((((w2.setCell ⟨wr.heap.size, 0, none⟩ (.int .i64 d.kind)).setCell ⟨wr.heap.size, 1, none⟩ (.string d.name)).setCell ⟨wr.heap.size, 2, none⟩ (.int .i64 d.ty.kind)).setCell ⟨wr.heap.size, 3, none⟩ (.string d.ty.pkg)).setCell ⟨wr.heap.size, 4, none⟩ (.int .i64 d.ty.major)).setCell ⟨wr.heap.size, 5, none⟩ (.string d.ty.mod)).setCell ⟨wr.heap.size, 6, none⟩ (.string d.ty.name)).setCell ⟨wr.heap.size, 7, none⟩ (.slice na' d.ty.names.length nc')).setCell ⟨wr.heap.size, 8, none⟩ (.slice sa' d.ty.subs.length sc')) = Wf at bf bb ⊢
          refine hK.out _ _ (Until.offT (by kernel_rfl)) (fun hV => ?_)
          clear hK K
          clear hU; have hU := hV; clear hV
          try simp only [Act.put, aput]
          refine AnyU.done (by kernel_rfl) ?_
          go_wp2_with fail
          go_meet
          exact ⟨_, rfl, hgz, bf, bb⟩
      case rest =>
        rename World => w7
        obtain ⟨b7, rfl, h7, d7, hb7⟩ := hcut
        clear x0 x1 x2 z0 c0 e0 e1 e2 e3 e4 e5 e6 e7 e8 lg0 lg1 lbb lbd
        obtain ⟨k0, k1, k2, k3, k4, k5, k6, k7, k8⟩ := cellsT9 d7
        have kl := d7.lt
        have HB7 := Lib.hid hb7
        have HT7 := Lib.hid (HTD.out.under (hb7.mono hBr))
        have hB7 : B ≤ w7.heap.size := Nat.le_trans hBr hb7.size
        have R7 := Lib.hid (HR.out.under hb7)
        have F7 := Lib.hid (HF2.out.trans (Fr.of_below (M := fun b => b = w.heap.size + 1 + 1) hb7) (fun b h => .inl h))
        obtain ⟨f, rfl⟩ : ∃ f, fu = f + 1 := ⟨fu - 1, by omega⟩
        have HLAW2 := Lib.hid (show mentL m.decls f (k + 1) (locF m.decls out (if d.kind = 3 then localsT d.ty else [])) = mentF m.decls t by
          have := HLAW.out; rw [mentL, dif_pos hlt, HX.out, HNX.out] at this; exact this)
        clear d7 hb7 HF
        by_cases h3 : d.kind = 3
        · have HL3 := Lib.hid (show mentL m.decls f (k + 1) (locF m.decls out (localsT d.ty)) = mentF m.decls t by have := HLAW2.out; rw [if_pos h3] at this; exact this)
          have hpre := locF_pre (ds := m.decls) (ls := localsT d.ty) (out := out)
          have HC := Lib.hid (mentL_c m ia ic (some ⟨bd, od, none⟩) dc B w.heap.size (w.heap.size + 1 + 1) d.ty _ out M2 w7 HT7.out hB7 R7.out hl)
          simp only [tyCells] at HC
          go_wp2_with (go_at_call 132; refine HC.out.mono ?_; rintro e w8 ⟨rfl, M3, h1, h2, h3⟩; have R8 := Lib.hid h1; have N8 := Lib.hid h2; have F8 := Lib.hid h3; clear h1 h2 h3)
          clear k0 k1 k2 k3 k4 k5 k6 k7 k8 HC
          have N9 := Lib.hid (fun b (h : M3 b) => (show b = w.heap.size + 1 + 1 ∨ W.heap.size ≤ b by rcases N8.out b h with h | h; exact HN2.out b h; have := F7.out.size; omega))
          have F9 := Lib.hid (F7.out.trans F8.out HN2.out)
          obtain ⟨r, hpre⟩ := hpre
          first
            | exact ⟨⟨k + 1, f, _, M3, by go_num, by rw [hpre, List.length_append]; omega, by omega, R8.out, N9.out, F9.out, HL3.out⟩, by simp [intOf]; omega⟩
            | (go_roundw
               case rel => exact ⟨k + 1, f, _, M3, by go_num, by rw [hpre, List.length_append]; omega, by omega, R8.out, N9.out, F9.out, HL3.out⟩
               case measure => simp [intOf]; omega)
        · have HL3 := Lib.hid (show mentL m.decls f (k + 1) out = mentF m.decls t by have := HLAW2.out; rw [if_neg h3] at this; exact this)
          go_wp2_with fail
          first
            | exact ⟨⟨k + 1, f, out, M2, by go_num, by omega, by omega, R7.out, HN2.out, F7.out, HL3.out⟩, by simp [intOf]; omega⟩
            | (go_roundw
               case rel => exact ⟨k + 1, f, out, M2, by go_num, by omega, by omega, R7.out, HN2.out, F7.out, HL3.out⟩
               case measure => simp [intOf]; omega)
    · obtain rfl : k = out.length := by omega
      have hltI : ¬ (out.length : Int) < (out.length : Int) := by omega
      have he : mentF m.decls t = out := by rw [← HLAW.out]; cases fu with
        | zero => rfl
        | succ f => rw [mentL, dif_neg (by omega)]
      have HE := Lib.hid he
      clear he
      go_wp2_with fail
      go_ret
      exact ⟨_, rfl, by rw [HE.out]; exact owns_low HO.out (by omega), HBE.out⟩
end Go.Proofs.YtjeldfipipkfiaaGreat
