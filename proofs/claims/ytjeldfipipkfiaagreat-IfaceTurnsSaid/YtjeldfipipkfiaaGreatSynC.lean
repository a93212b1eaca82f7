/- The contracts of syntax.May and of what it calls; no condition but those of Go's own values. -/
import Derived.Test.YtjeldfipipkfiaaGreatGIdx
import Derived.Test.YtjeldfipipkfiaaGreatGScope
import Derived.Test.YtjeldfipipkfiaaGreatGReg
namespace Go.Proofs.YtjeldfipipkfiaaGreat
open Go.RowKit
set_option linter.unusedSimpArgs false
set_option linter.unusedVariables false
set_option maxRecDepth 100000 in
set_option maxHeartbeats 40000000 in
theorem synImp_c (i : Imp) (w : World) (hf : ImpFits i) : Calls Tryz.prog 80 #[.agg (impCells i)] w fun e w' => e = .returned (.bool (impOk i)) ∧ Below w.heap.size w w' := by
  have C1 := fun w => Small_c i.pkg w hf.pkg
  have C2 := fun w => Small_c i.mod w hf.mod
  have C3 := fun w => Small_c i.asN w hf.asN
  obtain ⟨s1, h1⟩ : ∃ s, smallB i.pkg = s := ⟨_, rfl⟩
  obtain ⟨s2, h2⟩ : ∃ s, smallB i.mod = s := ⟨_, rfl⟩
  obtain ⟨s3, h3⟩ : ∃ s, smallB i.asN = s := ⟨_, rfl⟩
  have hr : impOk i = (s1 && (s2 && (s3 && (decide (1 ≤ i.major) && decide (i.major ≤ 999999999))))) := by rw [impOk, h1, h2, h3]
  rw [hr]
  simp only [h1] at C1
  simp only [h2] at C2
  simp only [h3] at C3
  have H1 := Lib.hid C1
  have H2 := Lib.hid C2
  have H3 := Lib.hid C3
  clear C1 C2 C3 h1 h2 h3 hr hf
  go_enter Tryz.func80, Tryz.ntmps80
  simp only [impCells]
  go_upto_region 1 with fail
  have x0 := Lib.hid (Blk.new w #[.string i.pkg, .int .i64 i.major, .string i.mod, .string i.asN] 72)
  have A0 := Lib.hid ((Below.refl w.heap.size w).alloc (Nat.le_refl _) (.cells #[.string i.pkg, .int .i64 i.major, .string i.mod, .string i.asN] 72))
  generalize (w.alloc (.cells #[.string i.pkg, .int .i64 i.major, .string i.mod, .string i.asN] 72)) = W at x0 A0 ⊢
  obtain ⟨k0, k1, k2, k3⟩ := cellsT4 x0.out
  have lk := x0.out.lt
  by_cases m1 : 1 ≤ i.major
  all_goals by_cases m2 : i.major ≤ 999999999
  all_goals try (exfalso; omega)
  all_goals
    cases s1 <;> cases s2 <;> cases s3
  all_goals
    go_wp2_with (go_at_call 23; first
          | (have hno := A2; refine (H3.out _).mono ?_; rintro e w3 ⟨rfl, hb⟩; have A3 := Lib.hid (A2.out.trans (hb.mono A2.out.size)); clear hb k0 k1 k2 k3 lk hno; obtain ⟨k0, k1, k2, k3⟩ := cellsT4 (x0.out.under A3.out x0.out.lt); have lk := (x0.out.under A3.out x0.out.lt).lt)
          | (have hno := A1; refine (H2.out _).mono ?_; rintro e w2 ⟨rfl, hb⟩; have A2 := Lib.hid (A1.out.trans (hb.mono A1.out.size)); clear hb k0 k1 k2 k3 lk hno; obtain ⟨k0, k1, k2, k3⟩ := cellsT4 (x0.out.under A2.out x0.out.lt); have lk := (x0.out.under A2.out x0.out.lt).lt)
          | (refine (H1.out _).mono ?_; rintro e w1 ⟨rfl, hb⟩; have A1 := Lib.hid hb; clear hb k0 k1 k2 k3 lk; obtain ⟨k0, k1, k2, k3⟩ := cellsT4 (x0.out.under A1.out x0.out.lt); have lk := (x0.out.under A1.out x0.out.lt).lt))
    all_goals
      go_ret
      refine ⟨ret_b (by simp [m1, m2]), ?_⟩
      first
        | exact A0.out.trans (A3.out.mono A0.out.size)
        | exact A0.out.trans (A2.out.mono A0.out.size)
        | exact A0.out.trans (A1.out.mono A0.out.size)
set_option maxRecDepth 100000 in
set_option maxHeartbeats 40000000 in
theorem synNot_c (t : Ty) (na : Option Addr) (nc : Nat) (sa : Option Addr) (sc : Nat) (w : World) : Calls Tryz.prog 130 #[.agg (tyCells t na nc sa sc)] w fun e w' => e = .returned (.bool (nothingB t)) ∧ Below w.heap.size w w' := by
  obtain ⟨r, hr⟩ : ∃ r, nothingB t = r := ⟨_, rfl⟩
  rw [hr]
  have HR := Lib.hid hr
  clear hr
  go_enter Tryz.func130, Tryz.ntmps130
  simp only [tyCells]
  go_wp2_with fail
  all_goals
    go_ret
    exact ⟨ret_b (by rw [← HR.out]; first | (simp_all [nothingB]; done) | (cases hss : t.subs <;> simp_all [nothingB] <;> omega)), (Below.refl _ _).alloc (Nat.le_refl _) _⟩
set_option maxRecDepth 100000 in
set_option maxHeartbeats 40000000 in
theorem synDcl_c (d : Dcl) (na : Option Addr) (nc : Nat) (sa : Option Addr) (sc B : Nat) (w : World) (hB : B ≤ w.heap.size) (hf : DclFits d) (ht : TyC w B d.ty (tyCells d.ty na nc sa sc)) :
    Calls Tryz.prog 82 #[.agg (dclCells d na nc sa sc)] w fun e w' => e = .returned (.bool (dclOk d)) ∧ Below w.heap.size w w' := by
  have C1 := fun w => Small_c d.name w hf.name
  have C2 := fun w => great_b d.name w hf.name
  have C3 := fun w h hB => May_c d.ty (tyCells d.ty na nc sa sc) B w h hB
  have C4 := fun w => synNot_c d.ty na nc sa sc w
  obtain ⟨s1, h1⟩ : ∃ s, smallB d.name = s := ⟨_, rfl⟩
  obtain ⟨s2, h2⟩ : ∃ s, greatB d.name = s := ⟨_, rfl⟩
  obtain ⟨s3, h3⟩ : ∃ s, mayT d.ty = s := ⟨_, rfl⟩
  obtain ⟨s4, h4⟩ : ∃ s, nothingB d.ty = s := ⟨_, rfl⟩
  have hr : dclOk d = if d.kind = 1 ∨ d.kind = 2 then s2 && s4 else if d.kind = 3 then s2 && s3 else if d.kind = 4 then s1 && s3 else false := by rw [dclOk, h1, h2, h3, h4]
  obtain ⟨q, hq⟩ : ∃ q, d.kind = q := ⟨_, rfl⟩
  rw [hq] at hr
  rw [hr]
  simp only [dclCells, hq]
  simp only [h1] at C1
  simp only [h2] at C2
  simp only [h3] at C3
  simp only [h4] at C4
  have H1 := Lib.hid C1
  have H2 := Lib.hid C2
  have H3 := Lib.hid C3
  have H4 := Lib.hid C4
  have HT := Lib.hid ht
  clear C1 C2 C3 C4 h1 h2 h3 h4 hr hf ht hq
  simp only [tyCells] at H3 H4 HT
  go_enter Tryz.func82, Tryz.ntmps82
  go_upto_region 1 with fail
  have x0 := Lib.hid (Blk.new w #[.int .i64 q, .string d.name, .int .i64 d.ty.kind, .string d.ty.pkg, .int .i64 d.ty.major, .string d.ty.mod, .string d.ty.name, .slice na d.ty.names.length nc, .slice sa d.ty.subs.length sc] 55)
  have A0 := Lib.hid ((Below.refl w.heap.size w).alloc (Nat.le_refl _) (.cells #[.int .i64 q, .string d.name, .int .i64 d.ty.kind, .string d.ty.pkg, .int .i64 d.ty.major, .string d.ty.mod, .string d.ty.name, .slice na d.ty.names.length nc, .slice sa d.ty.subs.length sc] 55))
  generalize (w.alloc (.cells #[.int .i64 q, .string d.name, .int .i64 d.ty.kind, .string d.ty.pkg, .int .i64 d.ty.major, .string d.ty.mod, .string d.ty.name, .slice na d.ty.names.length nc, .slice sa d.ty.subs.length sc] 55)) = W at x0 A0 ⊢
  obtain ⟨k0, k1, k2, k3, k4, k5, k6, k7, k8⟩ := cellsT9 x0.out
  have lk := x0.out.lt
  have hcase : q = 1 ∨ q = 2 ∨ q = 3 ∨ q = 4 ∨ (¬ q = 1 ∧ ¬ q = 2 ∧ ¬ q = 3 ∧ ¬ q = 4) := by omega
  rcases hcase with rfl | rfl | rfl | rfl | ⟨n1, n2, n3, n4⟩
  all_goals cases s1 <;> cases s2
  all_goals
    go_wp2_with (first
      | (go_at_call 23; refine (H1.out _).mono ?_; rintro e w1 ⟨rfl, hb⟩; have A1 := Lib.hid hb; clear hb k0 k1 k2 k3 k4 k5 k6 k7 k8 lk; obtain ⟨k0, k1, k2, k3, k4, k5, k6, k7, k8⟩ := cellsT9 (x0.out.under A1.out x0.out.lt); have lk := (x0.out.under A1.out x0.out.lt).lt)
      | (go_at_call 30; refine (H2.out _).mono ?_; rintro e w1 ⟨rfl, hb⟩; have A1 := Lib.hid hb; clear hb k0 k1 k2 k3 k4 k5 k6 k7 k8 lk; obtain ⟨k0, k1, k2, k3, k4, k5, k6, k7, k8⟩ := cellsT9 (x0.out.under A1.out x0.out.lt); have lk := (x0.out.under A1.out x0.out.lt).lt)
      | (go_at_call 48; refine (H3.out _ (HT.out.under ((A0.out.trans (A1.out.mono A0.out.size)).mono hB)) (Nat.le_trans hB (A0.out.trans (A1.out.mono A0.out.size)).size)).mono ?_; rintro e w2 ⟨rfl, hb⟩; have A2 := Lib.hid (A1.out.trans (hb.mono A1.out.size)); clear hb k0 k1 k2 k3 k4 k5 k6 k7 k8 lk)
      | (go_at_call 130; refine (H4.out _).mono ?_; rintro e w2 ⟨rfl, hb⟩; have A2 := Lib.hid (A1.out.trans (hb.mono A1.out.size)); clear hb k0 k1 k2 k3 k4 k5 k6 k7 k8 lk))
    all_goals
      go_ret
      refine ⟨ret_b (by simp_all), ?_⟩
      first
        | exact A0.out.trans (A2.out.mono A0.out.size)
        | exact A0.out.trans (A1.out.mono A0.out.size)
        | exact A0.out
theorem enter_synImp (a : Array Value) (w : World) : (callFunc 80 a).run Tryz.prog w = .ok (.enter 80 a) w := by kernel_rfl
set_option maxRecDepth 100000 in
set_option maxHeartbeats 4000000 in
theorem allImp1_c (x : Imp) (mb : Nat) (w : World) (hc : w.cell? ⟨mb, 0, none⟩ = some (.func (.func 80) #[] #[])) (hlt : mb < w.heap.size) (hf : ImpFits x) :
    Calls Tryz.prog 127 #[.agg (impCells x), .pointer (some ⟨mb, 0, none⟩)] w fun e w' => e = .returned (.bool (!impOk x)) ∧ Below w.heap.size w w' := by
  have C := fun w => synImp_c x w hf
  simp only [impCells] at C
  have H := Lib.hid C
  clear C hf
  have EN := enter_synImp
  go_enter Tryz.func127, Tryz.ntmps127
  simp only [impCells]
  go_wp2_with (go_at_call 80; refine (H.out _).mono ?_; rintro e w1 ⟨rfl, hb⟩; have A1 := Lib.hid hb; clear hb)
  go_ret
  exact ⟨rfl, acc1 (Below.refl _ _) (Nat.le_refl _) A1.out⟩
set_option maxRecDepth 100000 in
set_option maxHeartbeats 4000000 in
theorem allDcl1_c (x : Dcl) (mb : Nat) (na : Option Addr) (nc : Nat) (sa : Option Addr) (sc B : Nat) (w : World) (hc : w.cell? ⟨mb, 0, none⟩ = some (.func (.func 82) #[] #[])) (hlt : mb < w.heap.size) (hB : B ≤ w.heap.size) (hf : DclFits x) (ht : TyC w B x.ty (tyCells x.ty na nc sa sc)) :
    Calls Tryz.prog 129 #[.agg (dclCells x na nc sa sc), .pointer (some ⟨mb, 0, none⟩)] w fun e w' => e = .returned (.bool (!dclOk x)) ∧ Below w.heap.size w w' := by
  have C := fun w hB ht => synDcl_c x na nc sa sc B w hB hf ht
  simp only [dclCells] at C
  have H := Lib.hid C
  have HT := Lib.hid ht
  clear C hf ht
  go_enter Tryz.func129, Tryz.ntmps129
  simp only [dclCells]
  go_wp2_with (go_at_call 82; refine (H.out _ (by simp; omega) (HT.out.alloc hB _)).mono ?_; rintro e w1 ⟨rfl, hb⟩; have A1 := Lib.hid hb; clear hb)
  go_ret
  exact ⟨rfl, acc1 (Below.refl _ _) (Nat.le_refl _) A1.out⟩
theorem all_not {α : Type} (p : α → Bool) (l : List α) : (!(l.any fun x => !p x)) = l.all p := by
  rw [List.not_any_eq_all_not]
  simp
theorem impsFits {w : World} {B : Nat} {A : Option Addr} {l : List Imp} (h : ImpsAt w B A l) : ∀ x ∈ l, ImpFits x := by
  intro x hx
  obtain ⟨i, hi, rfl⟩ := List.getElem_of_mem hx
  obtain ⟨f, -, h2⟩ := h
  exact (h2 i hi).1
set_option maxRecDepth 100000 in
set_option maxHeartbeats 4000000 in
theorem allImp_c (l : List Imp) (A : Option Addr) (c B : Nat) (w : World) (h : ImpsAt w B A l) (hB : B ≤ w.heap.size) (hl : l.length ≤ 1000000) :
    Calls Tryz.prog 79 #[.slice A l.length c, .func (.func 80) #[] #[]] w fun e w' => e = .returned (.bool (l.all impOk)) ∧ Below w.heap.size w w' := by
  have HI := Lib.hid h
  clear h
  have HN := Lib.hid (all_not impOk l)
  go_enter Tryz.func79, Tryz.ntmps79
  go_upto_region 1 with fail
  have x0 := Lib.hid (Blk.new w #[.func (.func 80) #[] #[]] 87)
  have A0 := Lib.hid ((Below.refl w.heap.size w).alloc (Nat.le_refl _) (.cells #[.func (.func 80) #[] #[]] 87))
  generalize (w.alloc (.cells #[.func (.func 80) #[] #[]] 87)) = W at x0 A0 ⊢
  go_wp2_with (go_at_call 38; refine (conImp_c 127 _ (fun x => !impOk x) A c B l _ (HI.out.under (A0.out.mono hB)) (Nat.le_trans hB A0.out.size) hl (by intro a w; rfl) (fun w' hb' x hx => allImp1_c x w.heap.size w' (((x0.out.under hb' x0.out.lt).cell 0).trans (by simp)) (x0.out.under hb' x0.out.lt).lt (impsFits HI.out x hx))).mono ?_; rintro e w1 ⟨rfl, hb⟩; have A1 := Lib.hid hb; clear hb)
  go_ret
  exact ⟨ret_b HN.out, A0.out.trans (A1.out.mono A0.out.size)⟩
set_option maxRecDepth 100000 in
set_option maxHeartbeats 4000000 in
theorem allDcl_c (l : List Dcl) (A : Option Addr) (c B : Nat) (w : World) (h : DclsAt w B A l) (hB : B ≤ w.heap.size) (hl : l.length ≤ 1000000) :
    Calls Tryz.prog 81 #[.slice A l.length c, .func (.func 82) #[] #[]] w fun e w' => e = .returned (.bool (l.all dclOk)) ∧ Below w.heap.size w w' := by
  have HI := Lib.hid h
  clear h
  have HN := Lib.hid (all_not dclOk l)
  go_enter Tryz.func81, Tryz.ntmps81
  go_upto_region 1 with fail
  have x0 := Lib.hid (Blk.new w #[.func (.func 82) #[] #[]] 114)
  have A0 := Lib.hid ((Below.refl w.heap.size w).alloc (Nat.le_refl _) (.cells #[.func (.func 82) #[] #[]] 114))
  generalize (w.alloc (.cells #[.func (.func 82) #[] #[]] 114)) = W at x0 A0 ⊢
  go_wp2_with (go_at_call 128; refine (conDcl_c 129 _ (fun x => !dclOk x) A c B l _ (HI.out.under (A0.out.mono hB)) (Nat.le_trans hB A0.out.size) hl (by intro a w; rfl) (fun w' hb' x hx na nc sa sc hfx hty => allDcl1_c x w.heap.size na nc sa sc B w' (((x0.out.under hb' x0.out.lt).cell 0).trans (by simp)) (x0.out.under hb' x0.out.lt).lt (Nat.le_trans (Nat.le_trans hB A0.out.size) hb'.size) hfx hty)).mono ?_; rintro e w1 ⟨rfl, hb⟩; have A1 := Lib.hid hb; clear hb)
  go_ret
  exact ⟨ret_b HN.out, A0.out.trans (A1.out.mono A0.out.size)⟩
set_option maxRecDepth 100000 in
set_option maxHeartbeats 4000000 in
theorem synMay_c (m : Mdl) (ia : Option Addr) (ic : Nat) (da : Option Addr) (dc B : Nat) (w : World) (hm : MdlC w B m ia ic da dc) (hB : B ≤ w.heap.size) :
    Calls Tryz.prog 42 #[.agg (mdlCells m ia ic da dc)] w fun e w' => e = .returned (.bool (mayM m)) ∧ Below w.heap.size w w' := by
  have C1 := fun w => Small_c m.name w hm.name
  have C2 := fun w h hB hl => allImp_c m.imps ia ic B w h hB hl
  have C3 := fun w h hB hl => allDcl_c m.decls da dc B w h hB hl
  obtain ⟨s1, h1⟩ : ∃ s, smallB m.name = s := ⟨_, rfl⟩
  obtain ⟨s2, h2⟩ : ∃ s, m.imps.all impOk = s := ⟨_, rfl⟩
  obtain ⟨s3, h3⟩ : ∃ s, m.decls.all dclOk = s := ⟨_, rfl⟩
  have hr : mayM m = (s1 && (decide (m.imps.length ≤ 20) && (decide (m.decls.length ≤ 60) && (s2 && s3)))) := by rw [mayM, h1, h2, h3]
  rw [hr]
  simp only [h1] at C1
  simp only [h2] at C2
  simp only [h3] at C3
  have H1 := Lib.hid C1
  have H2 := Lib.hid C2
  have H3 := Lib.hid C3
  have HM := Lib.hid hm
  clear C1 C2 C3 h1 h2 h3 hr hm
  go_enter Tryz.func42, Tryz.ntmps42
  simp only [mdlCells]
  go_upto_region 1 with fail
  have x0 := Lib.hid (Blk.new w #[.string m.name, .slice ia m.imps.length ic, .slice da m.decls.length dc] 25)
  have A0 := Lib.hid ((Below.refl w.heap.size w).alloc (Nat.le_refl _) (.cells #[.string m.name, .slice ia m.imps.length ic, .slice da m.decls.length dc] 25))
  generalize (w.alloc (.cells #[.string m.name, .slice ia m.imps.length ic, .slice da m.decls.length dc] 25)) = W at x0 A0 ⊢
  obtain ⟨k0, k1, k2⟩ := cellsT3 x0.out
  have lk := x0.out.lt
  by_cases l1 : m.imps.length ≤ 20
  all_goals by_cases l2 : m.decls.length ≤ 60
  all_goals
    first
      | (have i1 : (m.imps.length : Int) ≤ 20 := by omega)
      | (have i1 : ¬ (m.imps.length : Int) ≤ 20 := by omega)
    first
      | (have i2 : (m.decls.length : Int) ≤ 60 := by omega)
      | (have i2 : ¬ (m.decls.length : Int) ≤ 60 := by omega)
  all_goals
    cases s1 <;> cases s2
  all_goals
    go_wp2_with (first
      | (go_at_call 23; refine (H1.out _).mono ?_; rintro e w1 ⟨rfl, hb⟩; have A1 := Lib.hid (A0.out.trans (hb.mono A0.out.size)); have y1 := Lib.hid (x0.out.under hb x0.out.lt); clear hb k0 k1 k2 lk; obtain ⟨k0, k1, k2⟩ := cellsT3 y1.out; have lk := y1.out.lt)
      | (go_at_call 79; refine (H2.out _ (HM.out.imps.under (A1.out.mono hB)) (Nat.le_trans hB A1.out.size) (by omega)).mono ?_; rintro e w2 ⟨rfl, hb⟩; have A2 := Lib.hid (A1.out.trans (hb.mono A1.out.size)); have y2 := Lib.hid (y1.out.under hb y1.out.lt); clear hb k0 k1 k2 lk; obtain ⟨k0, k1, k2⟩ := cellsT3 y2.out; have lk := y2.out.lt)
      | (go_at_call 81; refine (H3.out _ (HM.out.decls.under (A2.out.mono hB)) (Nat.le_trans hB A2.out.size) (by omega)).mono ?_; rintro e w3 ⟨rfl, hb⟩; have A3 := Lib.hid (A2.out.trans (hb.mono A2.out.size)); clear hb k0 k1 k2 lk))
    all_goals
      go_ret
      refine ⟨ret_b (by simp [l1, l2]), ?_⟩
      first
        | exact A3.out
        | exact A2.out
        | exact A1.out
end Go.Proofs.YtjeldfipipkfiaaGreat
