/- The contract of merlonref08.lacks: does the environment lack something of some Locals? -/
import Derived.Test.YtjeldfipipkfiaaGreatDoorRfExL
namespace Go.Proofs.YtjeldfipipkfiaaGreatDoor
open Go.RowKit
set_option linter.unusedSimpArgs false
set_option linter.unusedVariables false
set_option maxRecDepth 100000 in
set_option maxHeartbeats 40000000 in
theorem lacks_c (E : Env) (ia : Option Addr) (ic : Nat) (da : Option Addr) (dc : Nat) (ea : Option Addr) (ec : Nat) (A : Option Addr) (c B : Nat) (l : List Ty) (w : World) (hm : MdlC w B E.m ia ic da dc) (hni : E.m.imps.length ≤ 1000000) (he : IfsAt w B ea E.env) (hfe : FewI E.env = true) (hl : TysAt w B A l) (hll : l.length ≤ 1000000) (hB : B ≤ w.heap.size) :
    Calls Tryz.prog 76 #[.agg (mdlCells E.m ia ic da dc), .slice ea E.env.length ec, .slice A l.length c] w fun e w' => e = .returned (.bool (lackB E l)) ∧ Below w.heap.size w w' := by
  obtain ⟨v, hv⟩ : ∃ v, lackB E l = v := ⟨_, rfl⟩
  rw [hv]
  have HV := Lib.hid hv
  have HL := Lib.hid hl
  have HTH := fun t cs W (hb : Below w.heap.size w W) (ht : TyC W B t cs) => refThere_c B E.m ia ic da dc E.env ea ec t cs W (hm.under (hb.mono hB)) hni (he.under (hb.mono hB)) hfe ht (Nat.le_trans hB hb.size)
  simp only [mdlCells] at HTH ⊢
  have HTH0 := Lib.hid HTH
  clear hm he hl hv HTH
  go_enter Tryz.func76, Tryz.ntmps76
  go_upto_region 1 with fail
  obtain ⟨W, hWq, d0, hb, hz⟩ := laidNX w #[.string E.m.name, .slice ia E.m.imps.length ic, .slice da E.m.decls.length dc] 25
  rewrite [← hWq]; clear hWq
  have HB := Lib.hid hb
  have D0 := Lib.hid d0
  clear hb d0
  go_wp2_with fail
  go_loopw [7] (fun iv wr => ∃ k : Nat, k ≤ l.length ∧ iv = .int .i64 k ∧ Below W.heap.size W wr ∧ ∀ j (h : j < l.length), j < k → hadB E l[j] = true) (fun iv _ => l.length - (intOf iv).toNat)
  case atStart => exact ⟨0, Nat.zero_le _, rfl, Below.refl _ _, fun j _ hj => absurd hj (by omega)⟩
  case round =>
    rename World => wr
    obtain ⟨k, hk, rfl, hbr, hall⟩ := hrel
    have HBR := Lib.hid hbr
    have HA := Lib.hid hall
    have BC := Lib.hid (HB.out.trans (hbr.mono HB.out.size))
    have hsr : w.heap.size + 1 ≤ wr.heap.size := by have := hbr.size; omega
    have DM := Lib.hid (D0.out.under hbr D0.out.lt)
    clear hbr hall
    by_cases hlt : k < l.length
    · obtain ⟨x, hx⟩ : ∃ x, l[k] = x := ⟨_, rfl⟩
      obtain ⟨b, o, nx, ncx, sx, scx, hA, hbB, htx, c0, c1, c2, c3, c4, c5, c6⟩ := (HL.out.under (BC.out.mono hB)).elem hlt hx
      obtain rfl := hA
      have lb : b < wr.heap.size := by omega
      have hkI : (k : Int) < (l.length : Int) := by omega
      have hk0 : (0 : Int) ≤ (k : Int) := by omega
      have HX := Lib.hid hx
      obtain ⟨r, hr⟩ : ∃ r, hadB E x = r := ⟨_, rfl⟩
      have HR := Lib.hid hr
      have HNX := Lib.hid (show r = true → ∀ j (h : j < l.length), j < k + 1 → hadB E l[j] = true from fun ht j hj hjk => by
        by_cases e : j = k
        · subst e; rw [HX.out, HR.out]; exact ht
        · exact HA.out j hj (by omega))
      clear hx hr
      cases hm : x.mod.toList.isEmpty
      · obtain ⟨⟨R1, R2⟩, hres⟩ : ∃ R, thereF E.m E.env x = R := ⟨_, rfl⟩
        have hth := fun W' (hb : Below wr.heap.size wr W') => HTH0.out x _ W' (BC.out.trans (hb.mono BC.out.size)) (htx.under (hb.mono (Nat.le_trans hB BC.out.size)))
        simp only [hres, tyCells] at hth
        have HTH := Lib.hid hth
        obtain rfl : r = R2 := by rw [← HR.out, hadB, hm, hres]; rfl
        clear hth htx hres
        obtain ⟨m0, m1, m2⟩ := cellsT3 DM.out
        have ml := DM.out.lt
        go_upto_region 5 with fail
        go_cut [9] (fun q w4 => q = .bool r ∧ Below wr.heap.size wr w4)
        case first =>
          refine wp_region_until [(6, fun w' => w'.cell? ⟨w.heap.size, 0, none⟩ = some (.string E.m.name) ∧ w'.cell? ⟨w.heap.size, 1, none⟩ = some (.slice ia E.m.imps.length ic) ∧ w'.cell? ⟨w.heap.size, 2, none⟩ = some (.slice da E.m.decls.length dc) ∧ w'.cell? ⟨b, o + k * 7, none⟩ = some (.int .i64 x.kind) ∧ w'.cell? ⟨b, o + k * 7 + 1, none⟩ = some (.string x.pkg) ∧ w'.cell? ⟨b, o + k * 7 + 2, none⟩ = some (.int .i64 x.major) ∧ w'.cell? ⟨b, o + k * 7 + 3, none⟩ = some (.string x.mod) ∧ w'.cell? ⟨b, o + k * 7 + 4, none⟩ = some (.string x.name) ∧ w'.cell? ⟨b, o + k * 7 + 5, none⟩ = some (.slice nx x.names.length ncx) ∧ w'.cell? ⟨b, o + k * 7 + 6, none⟩ = some (.slice sx x.subs.length scx))] (by kernel_rfl) (Until.cons (fun _ => ⟨m0, m1, m2, c0, c1, c2, c3, c4, c5, c6⟩) Until.nil) (fun hU => ?_)
          refine AnyU.loadc (i := 0) (d := 6) [6] (Si := fun w' => w'.cell? ⟨w.heap.size, 0, none⟩ = some (.string E.m.name) ∧ w'.cell? ⟨w.heap.size, 1, none⟩ = some (.slice ia E.m.imps.length ic) ∧ w'.cell? ⟨w.heap.size, 2, none⟩ = some (.slice da E.m.decls.length dc) ∧ w'.cell? ⟨b, o + k * 7, none⟩ = some (.int .i64 x.kind) ∧ w'.cell? ⟨b, o + k * 7 + 1, none⟩ = some (.string x.pkg) ∧ w'.cell? ⟨b, o + k * 7 + 2, none⟩ = some (.int .i64 x.major) ∧ w'.cell? ⟨b, o + k * 7 + 3, none⟩ = some (.string x.mod) ∧ w'.cell? ⟨b, o + k * 7 + 4, none⟩ = some (.string x.name) ∧ w'.cell? ⟨b, o + k * 7 + 5, none⟩ = some (.slice nx x.names.length ncx) ∧ w'.cell? ⟨b, o + k * 7 + 6, none⟩ = some (.slice sx x.subs.length scx)) (v := ?_) rfl (by kernel_rfl) (by kernel_rfl) (by kernel_rfl) (fun _ _ _ h => h) (by kernel_rfl) (by assumption) (by kernel_rfl) rfl (by simp) (by rfl) ?_ (fun hV => ?_)
          rotate_left 1
          · (intro wq hq; obtain ⟨u0, u1, u2, -⟩ := hq; go_simp; try with_reducible rfl)
          clear hU; have hU := hV; clear hV
          try simp only [Act.put, aput]
          refine AnyU.take (i := 1) (v := ?_) rfl (by kernel_rfl) (by kernel_rfl) (by kernel_rfl) (fun _ _ _ h => h) (by kernel_rfl) (by assumption) (by rfl) ?_ (fun hV => ?_)
          rotate_left 1
          · (intro wq; go_simp; try with_reducible rfl)
          clear hU; have hU := hV; clear hV
          try simp only [Act.put, aput]
          refine AnyU.take (i := 2) (v := ?_) rfl (by kernel_rfl) (by kernel_rfl) (by kernel_rfl) (fun _ _ _ h => h) (by kernel_rfl) (by assumption) (by rfl) ?_ (fun hV => ?_)
          rotate_left 1
          · (intro wq; go_simp; try with_reducible rfl)
          clear hU; have hU := hV; clear hV
          try simp only [Act.put, aput]
          refine AnyU.take (i := 3) (v := ?_) rfl (by kernel_rfl) (by kernel_rfl) (by kernel_rfl) (fun _ _ _ h => h) (by kernel_rfl) (by assumption) (by rfl) ?_ (fun hV => ?_)
          rotate_left 1
          · (intro wq; go_simp; try with_reducible rfl)
          clear hU; have hU := hV; clear hV
          try simp only [Act.put, aput]
          refine AnyU.take (i := 4) (v := ?_) rfl (by kernel_rfl) (by kernel_rfl) (by kernel_rfl) (fun _ _ _ h => h) (by kernel_rfl) (by assumption) (by rfl) ?_ (fun hV => ?_)
          rotate_left 1
          · (intro wq; go_simp; try with_reducible rfl)
          clear hU; have hU := hV; clear hV
          try simp only [Act.put, aput]
          refine AnyU.loadc (i := 5) (d := 6) [6] (Si := fun w' => w'.cell? ⟨w.heap.size, 0, none⟩ = some (.string E.m.name) ∧ w'.cell? ⟨w.heap.size, 1, none⟩ = some (.slice ia E.m.imps.length ic) ∧ w'.cell? ⟨w.heap.size, 2, none⟩ = some (.slice da E.m.decls.length dc) ∧ w'.cell? ⟨b, o + k * 7, none⟩ = some (.int .i64 x.kind) ∧ w'.cell? ⟨b, o + k * 7 + 1, none⟩ = some (.string x.pkg) ∧ w'.cell? ⟨b, o + k * 7 + 2, none⟩ = some (.int .i64 x.major) ∧ w'.cell? ⟨b, o + k * 7 + 3, none⟩ = some (.string x.mod) ∧ w'.cell? ⟨b, o + k * 7 + 4, none⟩ = some (.string x.name) ∧ w'.cell? ⟨b, o + k * 7 + 5, none⟩ = some (.slice nx x.names.length ncx) ∧ w'.cell? ⟨b, o + k * 7 + 6, none⟩ = some (.slice sx x.subs.length scx)) (v := ?_) rfl (by kernel_rfl) (by kernel_rfl) (by kernel_rfl) (fun _ _ _ h => h) (by kernel_rfl) (by assumption) (by kernel_rfl) rfl (by simp) (by rfl) ?_ (fun hV => ?_)
          rotate_left 1
          · (intro wq hq; obtain ⟨-, -, -, u0, u1, u2, u3, u4, u5, u6⟩ := hq; go_simp; try with_reducible rfl)
          clear hU; have hU := hV; clear hV
          try simp only [Act.put, aput]
          refine AnyU.ready2 (i := 6) (j := 10) (by kernel_rfl) (AnyU.one rfl fun K hK => ?_) (AnyU.one rfl fun K hK => ?_)
          · go_simp
            go_at_call 133
            refine (HTH.out _ (Below.refl _ _).drew).mono ?_
            rintro e w2 ⟨cs5, rfl, hty, hb⟩
            obtain ⟨na5, nc5, sa5, sc5, f5, rfl, -⟩ := hty.inv
            simp only [tyCells]
            clear hty
            have hb2 : Below wr.heap.size wr w2 := (Below.refl _ _).drew.trans hb
            clear hb m0 m1 m2 c0 c1 c2 c3 c4 c5 c6
            refine hK.out _ _ (Until.offT (by kernel_rfl)) (fun hV => ?_)
            clear hK K hU
            have hU := hV
            clear hV
            try simp only [Act.put, aput]
            refine AnyU.take (i := 7) (v := ?_) rfl (by kernel_rfl) (by kernel_rfl) (by kernel_rfl) (fun _ _ _ h => h) (by kernel_rfl) (by assumption) (by rfl) ?_ (fun hV => ?_)
            rotate_left 1
            · (intro wq; go_simp; try with_reducible rfl)
            clear hU; have hU := hV; clear hV
            try simp only [Act.put, aput]
            refine AnyU.take (i := 8) (v := ?_) rfl (by kernel_rfl) (by kernel_rfl) (by kernel_rfl) (fun _ _ _ h => h) (by kernel_rfl) (by assumption) (by rfl) ?_ (fun hV => ?_)
            rotate_left 1
            · (intro wq; go_simp; try with_reducible rfl)
            clear hU; have hU := hV; clear hV
            try simp only [Act.put, aput]
            refine AnyU.take (i := 9) (v := ?_) rfl (by kernel_rfl) (by kernel_rfl) (by kernel_rfl) (fun _ _ _ h => h) (by kernel_rfl) (by assumption) (by rfl) ?_ (fun hV => ?_)
            rotate_left 1
            · (intro wq; go_simp; try with_reducible rfl)
            clear hU; have hU := hV; clear hV
            try simp only [Act.put, aput]
            refine AnyU.ready1 (i := 10) (by kernel_rfl) (AnyU.one rfl fun K hK => ?_)
            go_simp
            obtain ⟨zb, hbz, hzs⟩ := laidN w2 #[.int .i64 0, .string { data := #[] }, .int .i64 0, .string { data := #[] }, .string { data := #[] }, .slice none 0 0, .slice none 0 0] 29
            generalize hX3 : w2.alloc (.cells #[.int .i64 0, .string { data := #[] }, .int .i64 0, .string { data := #[] }, .string { data := #[] }, .slice none 0 0, .slice none 0 0] 29) = X3 at zb hbz hzs ⊢
            clear hX3
            refine hK.out _ _ (Until.offT (by kernel_rfl)) (fun hV => ?_)
            clear hK K hU
            have hU := hV
            clear hV
            try simp only [Act.put, aput]
            have hbX : Below wr.heap.size wr X3 := hb2.trans (hbz.mono hb2.size)
            have hw2 : wr.heap.size ≤ w2.heap.size := hb2.size
            obtain ⟨d0, d1, d2, d3, d4, d5, d6⟩ := cellsT7 zb
            have f0 := zb.free 0
            have f1 := zb.free 1
            have f2 := zb.free 2
            have f3 := zb.free 3
            have f4 := zb.free 4
            have f5 := zb.free 5
            have f6 := zb.free 6
            have ld := zb.lt
            refine AnyU.ready1 (i := 11) (by kernel_rfl) (AnyU.one rfl fun K hK => ?_)
            go_simp
            have hbp := pb7 (.int .i64 R1.kind) (.string R1.pkg) (.int .i64 R1.major) (.string R1.mod) (.string R1.name) (.slice na5 R1.names.length nc5) (.slice sa5 R1.subs.length sc5) hbX (show wr.heap.size ≤ w2.heap.size by omega)
            generalize (((((((X3.setCell ⟨w2.heap.size, 0, none⟩ (.int .i64 R1.kind)).setCell ⟨w2.heap.size, 1, none⟩ (.string R1.pkg)).setCell ⟨w2.heap.size, 2, none⟩ (.int .i64 R1.major)).setCell ⟨w2.heap.size, 3, none⟩ (.string R1.mod)).setCell ⟨w2.heap.size, 4, none⟩ (.string R1.name)).setCell ⟨w2.heap.size, 5, none⟩ (.slice na5 R1.names.length nc5)).setCell ⟨w2.heap.size, 6, none⟩ (.slice sa5 R1.subs.length sc5)) = Wf at hbp ⊢
            refine hK.out _ _ (Until.offT (by kernel_rfl)) (fun hV => ?_)
            clear hK K hU
            have hU := hV
            clear hV
            try simp only [Act.put, aput]
            refine AnyU.take (i := 12) (v := ?_) rfl (by kernel_rfl) (by kernel_rfl) (by kernel_rfl) (fun _ _ _ h => h) (by kernel_rfl) (by assumption) (by rfl) ?_ (fun hV => ?_)
            rotate_left 1
            · (intro wq; go_simp; try with_reducible rfl)
            clear hU; have hU := hV; clear hV
            try simp only [Act.put, aput]
            refine AnyU.done (by kernel_rfl) ?_
            go_wp2_with fail
            go_meet
            exact ⟨rfl, hbp⟩
          · go_simp
            obtain ⟨zb, hbz, hzs⟩ := laidD wr #[.int .i64 0, .string { data := #[] }, .int .i64 0, .string { data := #[] }, .string { data := #[] }, .slice none 0 0, .slice none 0 0] 29
            generalize hX3 : (wr.alloc (.cells #[.int .i64 0, .string { data := #[] }, .int .i64 0, .string { data := #[] }, .string { data := #[] }, .slice none 0 0, .slice none 0 0] 29)).drew = X3 at zb hbz hzs ⊢
            clear hX3
            have m0 := (hbz.cell (p := ⟨w.heap.size, 0, none⟩) ml).trans m0
            have m1 := (hbz.cell (p := ⟨w.heap.size, 1, none⟩) ml).trans m1
            have m2 := (hbz.cell (p := ⟨w.heap.size, 2, none⟩) ml).trans m2
            have c0 := (hbz.cell (p := ⟨b, o + k * 7, none⟩) lb).trans c0
            have c1 := (hbz.cell (p := ⟨b, o + k * 7 + 1, none⟩) lb).trans c1
            have c2 := (hbz.cell (p := ⟨b, o + k * 7 + 2, none⟩) lb).trans c2
            have c3 := (hbz.cell (p := ⟨b, o + k * 7 + 3, none⟩) lb).trans c3
            have c4 := (hbz.cell (p := ⟨b, o + k * 7 + 4, none⟩) lb).trans c4
            have c5 := (hbz.cell (p := ⟨b, o + k * 7 + 5, none⟩) lb).trans c5
            have c6 := (hbz.cell (p := ⟨b, o + k * 7 + 6, none⟩) lb).trans c6
            refine hK.out _ _ (Until.cons (fun _ => ⟨m0, m1, m2, c0, c1, c2, c3, c4, c5, c6⟩) Until.nil) (fun hV => ?_)
            clear hK K hU
            have hU := hV
            clear hV
            try simp only [Act.put, aput]
            refine AnyU.ready1 (i := 6) (by kernel_rfl) (AnyU.one rfl fun K hK => ?_)
            go_simp
            go_at_call 133
            refine (HTH.out _ hbz).mono ?_
            rintro e w2 ⟨cs5, rfl, hty, hb⟩
            obtain ⟨na5, nc5, sa5, sc5, f5, rfl, -⟩ := hty.inv
            simp only [tyCells]
            clear hty
            have hbX : Below wr.heap.size wr w2 := hbz.trans (hb.mono (by omega))
            have zb := zb.under hb zb.lt
            clear hb m0 m1 m2 c0 c1 c2 c3 c4 c5 c6
            refine hK.out _ _ (Until.offT (by kernel_rfl)) (fun hV => ?_)
            clear hK K hU
            have hU := hV
            clear hV
            try simp only [Act.put, aput]
            refine AnyU.take (i := 7) (v := ?_) rfl (by kernel_rfl) (by kernel_rfl) (by kernel_rfl) (fun _ _ _ h => h) (by kernel_rfl) (by assumption) (by rfl) ?_ (fun hV => ?_)
            rotate_left 1
            · (intro wq; go_simp; try with_reducible rfl)
            clear hU; have hU := hV; clear hV
            try simp only [Act.put, aput]
            refine AnyU.take (i := 8) (v := ?_) rfl (by kernel_rfl) (by kernel_rfl) (by kernel_rfl) (fun _ _ _ h => h) (by kernel_rfl) (by assumption) (by rfl) ?_ (fun hV => ?_)
            rotate_left 1
            · (intro wq; go_simp; try with_reducible rfl)
            clear hU; have hU := hV; clear hV
            try simp only [Act.put, aput]
            refine AnyU.take (i := 9) (v := ?_) rfl (by kernel_rfl) (by kernel_rfl) (by kernel_rfl) (fun _ _ _ h => h) (by kernel_rfl) (by assumption) (by rfl) ?_ (fun hV => ?_)
            rotate_left 1
            · (intro wq; go_simp; try with_reducible rfl)
            clear hU; have hU := hV; clear hV
            try simp only [Act.put, aput]
            obtain ⟨d0, d1, d2, d3, d4, d5, d6⟩ := cellsT7 zb
            have f0 := zb.free 0
            have f1 := zb.free 1
            have f2 := zb.free 2
            have f3 := zb.free 3
            have f4 := zb.free 4
            have f5 := zb.free 5
            have f6 := zb.free 6
            have ld := zb.lt
            refine AnyU.ready1 (i := 11) (by kernel_rfl) (AnyU.one rfl fun K hK => ?_)
            go_simp
            have hbp := pb7 (.int .i64 R1.kind) (.string R1.pkg) (.int .i64 R1.major) (.string R1.mod) (.string R1.name) (.slice na5 R1.names.length nc5) (.slice sa5 R1.subs.length sc5) hbX (Nat.le_refl _)
            generalize (((((((w2.setCell ⟨wr.heap.size, 0, none⟩ (.int .i64 R1.kind)).setCell ⟨wr.heap.size, 1, none⟩ (.string R1.pkg)).setCell ⟨wr.heap.size, 2, none⟩ (.int .i64 R1.major)).setCell ⟨wr.heap.size, 3, none⟩ (.string R1.mod)).setCell ⟨wr.heap.size, 4, none⟩ (.string R1.name)).setCell ⟨wr.heap.size, 5, none⟩ (.slice na5 R1.names.length nc5)).setCell ⟨wr.heap.size, 6, none⟩ (.slice sa5 R1.subs.length sc5)) = Wf at hbp ⊢
            refine hK.out _ _ (Until.offT (by kernel_rfl)) (fun hV => ?_)
            clear hK K hU
            have hU := hV
            clear hV
            try simp only [Act.put, aput]
            refine AnyU.take (i := 12) (v := ?_) rfl (by kernel_rfl) (by kernel_rfl) (by kernel_rfl) (fun _ _ _ h => h) (by kernel_rfl) (by assumption) (by rfl) ?_ (fun hV => ?_)
            rotate_left 1
            · (intro wq; go_simp; try with_reducible rfl)
            clear hU; have hU := hV; clear hV
            try simp only [Act.put, aput]
            refine AnyU.done (by kernel_rfl) ?_
            go_wp2_with fail
            go_meet
            exact ⟨rfl, hbp⟩
        case rest =>
          rename World => w4
          obtain ⟨rfl, hb4⟩ := hcut
          have HB4 := Lib.hid hb4
          clear hb4 m0 m1 m2 c0 c1 c2 c3 c4 c5 c6 lb ml
          cases r
          · obtain rfl : v = true := HV.out.symm.trans (lack_hit hlt (by rw [HX.out]; exact HR.out))
            go_wp2_with fail
            go_ret
            exact ⟨rfl, BC.out.trans (HB4.out.mono BC.out.size)⟩
          · have HF := Lib.hid (HNX.out rfl)
            go_wp2_with fail
            first
              | exact ⟨⟨k + 1, by omega, by go_num, HBR.out.trans (HB4.out.mono HBR.out.size), HF.out⟩, by simp [intOf]; omega⟩
              | (go_roundw
                 case rel => exact ⟨k + 1, by omega, by go_num, HBR.out.trans (HB4.out.mono HBR.out.size), HF.out⟩
                 case measure => simp [intOf]; omega)
      · have HF := Lib.hid (HNX.out (by rw [← HR.out, hadB, hm]; rfl))
        clear htx
        go_wp2_with fail
        first
          | exact ⟨⟨k + 1, by omega, by go_num, HBR.out, HF.out⟩, by simp [intOf]; omega⟩
          | (go_roundw
             case rel => exact ⟨k + 1, by omega, by go_num, HBR.out, HF.out⟩
             case measure => simp [intOf]; omega)
    · obtain rfl : k = l.length := by omega
      have hkI : ¬ (l.length : Int) < (l.length : Int) := by omega
      obtain rfl : v = false := HV.out.symm.trans (lack_miss fun j hj => HA.out j hj hj)
      go_wp2_with fail
      go_ret
      exact ⟨rfl, BC.out⟩
end Go.Proofs.YtjeldfipipkfiaaGreatDoor
