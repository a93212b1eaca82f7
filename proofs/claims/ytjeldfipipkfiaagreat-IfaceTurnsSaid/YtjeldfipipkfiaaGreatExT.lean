/- The contracts of the expander's typ and local: what a type comes to, so deep; memory: an expander, which the calls change. -/
import Derived.Test.YtjeldfipipkfiaaGreatExJ
import Derived.Test.YtjeldfipipkfiaaGreatCpE
import Derived.Test.YtjeldfipipkfiaaGreatGExp
import Derived.IntWalk
namespace Go.Proofs.YtjeldfipipkfiaaGreat
open Go.RowKit
set_option linter.unusedSimpArgs false
set_option linter.unusedVariables false
theorem fr7 (w : World) {g : Nat} (v0 v1 v2 v3 v4 v5 v6 : Value) : Fr (· = g) w (((((((w.setCell ⟨g, 0, none⟩ (v0)).setCell ⟨g, 1, none⟩ (v1)).setCell ⟨g, 2, none⟩ (v2)).setCell ⟨g, 3, none⟩ (v3)).setCell ⟨g, 4, none⟩ (v4)).setCell ⟨g, 5, none⟩ (v5)).setCell ⟨g, 6, none⟩ (v6)) := by
  have hb := pb7 (B := g) v0 v1 v2 v3 v4 v5 v6 (Below.refl g w) (Nat.le_refl g)
  exact ⟨hb.os, hb.tape, hb.output, by rw [ps7]; exact Nat.le_refl _, fun b _ hn => by rw [Below.heap_setCell _ _ _ _ hn, Below.heap_setCell _ _ _ _ hn, Below.heap_setCell _ _ _ _ hn, Below.heap_setCell _ _ _ _ hn, Below.heap_setCell _ _ _ _ hn, Below.heap_setCell _ _ _ _ hn, Below.heap_setCell _ _ _ _ hn]⟩
theorem sf7 {w0 w : World} {B g : Nat} {T : TypeId} {a0 a1 a2 a3 a4 a5 a6 : Value} (v0 v1 v2 v3 v4 v5 v6 : Value) (h : Blk w g #[a0, a1, a2, a3, a4, a5, a6] T) (hb : Below B w0 w) (hg : B ≤ g) : ∃ W, W = (((((((w.setCell ⟨g, 0, none⟩ (v0)).setCell ⟨g, 1, none⟩ (v1)).setCell ⟨g, 2, none⟩ (v2)).setCell ⟨g, 3, none⟩ (v3)).setCell ⟨g, 4, none⟩ (v4)).setCell ⟨g, 5, none⟩ (v5)).setCell ⟨g, 6, none⟩ (v6)) ∧ Blk W g #[v0, v1, v2, v3, v4, v5, v6] T ∧ Below B w0 W ∧ Fr (· = g) w W :=
  ⟨_, rfl, pf7 v0 v1 v2 v3 v4 v5 v6 h, pb7 v0 v1 v2 v3 v4 v5 v6 hb hg, fr7 w v0 v1 v2 v3 v4 v5 v6⟩
theorem fr1 (w : World) (g j : Nat) (v : Value) : Fr (· = g) w (w.setCell ⟨g, j, none⟩ v) := by
  have hb := (Below.refl g w).setCell (p := ⟨g, j, none⟩) (Nat.le_refl g) v
  exact ⟨hb.os, hb.tape, hb.output, hb.size, fun b _ hn => Below.heap_setCell _ _ _ _ hn⟩
theorem Fr.cell {M : Nat → Prop} {w w' : World} (h : Fr M w w') {p : Addr} (hp : p.block < w.heap.size) (hn : ¬ M p.block) : w'.cell? p = w.cell? p := World.cell?_of_block (w := w) (h.block p.block hp hn)
theorem ExA.fr {M : Nat → Prop} {w w' : World} {B X : Nat} {E : Env} {ia : Option Addr} {ic : Nat} {da : Option Addr} {dc : Nat} {ea : Option Addr} {ec : Nat} {L : Int} {g : Bool} (h : ExA w B X E ia ic da dc ea ec L g) (hf : Fr M w w') (hM : ∀ b, M b → X < b) : ExA w' B X E ia ic da dc ea ec L g :=
  have hb := hf.below (B := B) (fun b hb => by have := hM b hb; have := h.low; omega) h.base
  ⟨h.blk.fr hf (fun hm => by have := hM X hm; omega), h.mdl.under hb, h.env.under hb, h.low, h.nd, h.ni, h.ne, h.nt⟩
theorem ExA.left {w : World} {B X : Nat} {E : Env} {ia : Option Addr} {ic : Nat} {da : Option Addr} {dc : Nat} {ea : Option Addr} {ec : Nat} {L : Int} {g : Bool} (h : ExA w B X E ia ic da dc ea ec L g) (L' : Int) : ExA (w.setCell ⟨X, 6, none⟩ (.int .i64 L')) B X E ia ic da dc ea ec L' g := by
  have hb := (Below.refl B w).setCell (p := ⟨X, 6, none⟩) h.low (.int .i64 L')
  exact ⟨by simpa using h.blk.set 6 (.int .i64 L'), h.mdl.under hb, h.env.under hb, h.low, h.nd, h.ni, h.ne, h.nt⟩
theorem ExA.big {w : World} {B X : Nat} {E : Env} {ia : Option Addr} {ic : Nat} {da : Option Addr} {dc : Nat} {ea : Option Addr} {ec : Nat} {L : Int} {g : Bool} (h : ExA w B X E ia ic da dc ea ec L g) : ExA (w.setCell ⟨X, 7, none⟩ (.bool true)) B X E ia ic da dc ea ec L true := by
  have hb := (Below.refl B w).setCell (p := ⟨X, 7, none⟩) h.low (.bool true)
  exact ⟨by simpa using h.blk.set 7 (.bool true), h.mdl.under hb, h.env.under hb, h.low, h.nd, h.ni, h.ne, h.nt⟩
theorem Row1.fr {X : Nat} {w w' : World} {base : Nat} {sv : Value} {L : List Ty} {F : List (Array Value)} (h : Row1 w 0 base sv L F) (hf : Fr (· = X) w w') (hX : X < base) : Row1 w' 0 base sv L F :=
  ⟨h.len, owns_keep h.row (fun g hg => hf.block g (owns_lt h.row hg).2 (fun e => by have := (owns_lt h.row hg).1; have e : g = X := e; omega)), h.seven, fun i hi hi' => (h.each i hi hi').move (fun b hM => by
    rcases hM with hM | hM
    · exact .inl hM
    · exact .inr ⟨hM.1, Nat.lt_of_lt_of_le hM.2.1 hf.size, hM.2.2⟩) (fun p hp => by
    rcases hp with hp | hp
    · omega
    · exact hf.cell hp.2.1 (fun e => by have := hp.1; have e : p.block = X := e; omega))⟩
theorem shape_len {t : Ty} (h : allT t = true) : t.names.length ≤ 20 ∧ t.subs.length ≤ 20 := by
  rw [allT_eq, Bool.and_eq_true, ← own_shape, ownB, Bool.and_eq_true, Bool.and_eq_true, decide_eq_true_eq] at h
  obtain ⟨⟨⟨h1, -⟩, h2⟩, -⟩ := h
  rw [kindR] at h2
  split at h2
  · simp only [Bool.and_eq_true, beq_iff_eq] at h2; omega
  · split at h2
    · simp only [Bool.and_eq_true, beq_iff_eq] at h2; omega
    · split at h2
      · simp only [Bool.and_eq_true, beq_iff_eq] at h2; omega
      · split at h2
        · simp only [Bool.and_eq_true, beq_iff_eq] at h2; omega
        · split at h2
          · simp only [Bool.and_eq_true, beq_iff_eq] at h2; omega
          · split at h2
            · simp only [Bool.and_eq_true, beq_iff_eq] at h2; omega
            · split at h2
              · simp only [Bool.and_eq_true, beq_iff_eq] at h2; omega
              · cases h2
def TypPost (x : Ty) (L depth : Int) (g : Bool) (y : Ty) (L' : Int) (g' : Bool) : Prop :=
  (g = true ∧ y = zT ∧ L' = L - 1 ∧ g' = true) ∨ (g = false ∧ (manyT x ≤ L ∧ deepT x + depth ≤ 33) ∧ y = x ∧ L' = L - manyT x ∧ g' = false) ∨
    (g = false ∧ ¬ (manyT x ≤ L ∧ deepT x + depth ≤ 33) ∧ g' = true ∧ -1 - 20 * (33 - depth) ≤ L' ∧ L' ≤ L)
def TypPre (L depth : Int) (g : Bool) : Prop := L ≤ 500 ∧ 1 ≤ depth ∧ depth ≤ 33 ∧ (g = true → -100000 ≤ L) ∧ (g = false → 0 ≤ L)
def TypRet (w : World) (B X : Nat) (E : Env) (ia : Option Addr) (ic : Nat) (da : Option Addr) (dc : Nat) (ea : Option Addr) (ec : Nat) (x : Ty) (L depth : Int) (g : Bool) (e : Ending) (w' : World) : Prop :=
  ∃ cs' y L' g', e = .returned (.agg cs') ∧ TyM w' (Fresh w w') y cs' ∧ ExA w' B X E ia ic da dc ea ec L' g' ∧ Fr (· = X) w w' ∧ TypPost x L depth g y L' g'
def TypF (fn : Nat) (E : Env) (t x : Ty) : Prop := ∀ (B X : Nat) (ia : Option Addr) (ic : Nat) (da : Option Addr) (dc : Nat) (ea : Option Addr) (ec : Nat) (L depth : Int) (g : Bool) (cs : Array Value) (w : World), ExA w B X E ia ic da dc ea ec L g → TyC w B t cs → TypPre L depth g →
  Calls Tryz.prog fn #[.pointer (some ⟨X, 0, none⟩), .agg cs, .int .i64 depth] w (TypRet w B X E ia ic da dc ea ec x L depth g)
theorem fin_ret {w W w1 Wz : World} {B X G : Nat} {E : Env} {ia : Option Addr} {ic : Nat} {da : Option Addr} {dc : Nat} {ea : Option Addr} {ec : Nat} {L : Int} {g : Bool} {y : Ty} {cs : Array Value} (hty : TyM w1 (Fresh W w1) y cs) (hG : w.heap.size ≤ G) (hGW : G < W.heap.size) (hX : X < w.heap.size) (hex : ExA w1 B X E ia ic da dc ea ec L g)
    (hfr : Fr (· = X) w w1) (hfz : Fr (· = G) w1 Wz) : TyM Wz (Fresh w Wz) y cs ∧ ExA Wz B X E ia ic da dc ea ec L g ∧ Fr (· = X) w Wz :=
  ⟨hty.move (fun b hb => ⟨by have := hb.1; omega, Nat.lt_of_lt_of_le hb.2 hfz.size⟩) (fun p hp => hfz.cell hp.2 (fun e => by have := hp.1; have e : p.block = G := e; omega)), hex.fr hfz (fun b e => by have e : b = G := e; omega), hfr.trans hfz (fun b e => .inr (by have e : b = G := e; omega))⟩
theorem typ_loc {E : Env} {t x : Ty} (h8 : t.kind = 8) (h : TypF 98 E t x) : TypF 52 E t x := by
  intro B X ia ic da dc ea ec L depth g cs w hE ht hp
  have hc8 : (t.kind == 8) = true := by simp [h8]
  obtain ⟨na, nc, sa, sc, f0, rfl, -⟩ := ht.inv
  have HE := Lib.hid hE
  have HT := Lib.hid ht
  have hlX := hE.blk.lt
  have HL := Lib.hid (fun w' (hb : Below w.heap.size w w') => h B X ia ic da dc ea ec L depth g _ w' (hE.under hb) (ht.under (hb.mono hE.base)) hp)
  simp only [tyCells] at HL ⊢
  clear hE ht hp h8 h
  go_enter Tryz.func52, Tryz.ntmps52
  go_upto_region 1 with fail
  obtain ⟨W, hWq, d0, d1, hz, hb⟩ := twoEX w #[.int .i64 t.kind, .string t.pkg, .int .i64 t.major, .string t.mod, .string t.name, .slice na t.names.length nc, .slice sa t.subs.length sc] #[.int .i64 0, .string { data := #[] }, .int .i64 0, .string { data := #[] }, .string { data := #[] }, .slice none 0 0, .slice none 0 0] 53 53
  rewrite [← hWq]; clear hWq
  have HB := Lib.hid hb
  have D1 := Lib.hid d1
  obtain ⟨k0, k1, k2, k3, k4, k5, k6⟩ := cellsT7 d0
  have kl := d0.lt
  clear hb d0 d1
  have HC := Lib.hid (HL.out W HB.out)
  clear HL
  go_wp2_with (go_at_call 98; refine HC.out.mono ?_; rintro e w1 ⟨cs1, y, L', g', rfl, hty, hex, hfr, hpost⟩; obtain ⟨na1, nc1, sa1, sc1, f1, rfl, -⟩ := hty.inv; have HTY := Lib.hid hty; have HEX := Lib.hid hex; have HFR := Lib.hid hfr; have HPO := Lib.hid hpost; have q1 := D1.out.fr hfr (fun e => by have e : w.heap.size + 1 = X := e; omega); clear hty hex hfr hpost k0 k1 k2 k3 k4 k5 k6 kl; simp only [tyCells]; obtain ⟨e0, e1, e2, e3, e4, e5, e6⟩ := cellsT7 q1; have f0 := q1.free 0; have f1 := q1.free 1; have f2 := q1.free 2; have f3 := q1.free 3; have f4 := q1.free 4; have f5 := q1.free 5; have f6 := q1.free 6; have le := q1.lt; have Q1 := Lib.hid q1; clear q1)
  have hp := pf7 (.int .i64 y.kind) (.string y.pkg) (.int .i64 y.major) (.string y.mod) (.string y.name) (.slice na1 y.names.length nc1) (.slice sa1 y.subs.length sc1) Q1.out
  have hfz := fr7 w1 (g := w.heap.size + 1) (.int .i64 y.kind) (.string y.pkg) (.int .i64 y.major) (.string y.mod) (.string y.name) (.slice na1 y.names.length nc1) (.slice sa1 y.subs.length sc1)
  generalize (((((((w1.setCell ⟨w.heap.size + 1, 0, none⟩ (.int .i64 y.kind)).setCell ⟨w.heap.size + 1, 1, none⟩ (.string y.pkg)).setCell ⟨w.heap.size + 1, 2, none⟩ (.int .i64 y.major)).setCell ⟨w.heap.size + 1, 3, none⟩ (.string y.mod)).setCell ⟨w.heap.size + 1, 4, none⟩ (.string y.name)).setCell ⟨w.heap.size + 1, 5, none⟩ (.slice na1 y.names.length nc1)).setCell ⟨w.heap.size + 1, 6, none⟩ (.slice sa1 y.subs.length sc1)) = Wz at hp hfz ⊢
  obtain ⟨r0, r1, r2, r3, r4, r5, r6⟩ := cellsT7 hp
  obtain ⟨h1, h2, h3⟩ := fin_ret (w := w) HTY.out (Nat.le_succ _) (by omega) hlX HEX.out ((Fr.of_below HB.out).trans HFR.out (fun b h => .inl h)) hfz
  refine bodyPost_ret (by simp [results, Tryz.results52, go_sem, r0, r1, r2, r3, r4, r5, r6]; try rfl) rfl ?_
  exact ⟨_, y, L', g', rfl, h1, h2, h3, HPO.out⟩
theorem loc_alias {E : Env} {t x : Ty} {d : Dcl} (hm : t.mod.toList.isEmpty = true) (hd : declOf E.m.decls t.name = some d) (h3 : d.kind = 3) (h : TypF 52 E d.ty x) : TypF 98 E t x := by
  intro B X ia ic da dc ea ec L depth g cs w hE ht hp
  have hc3 : (d.kind == 3) = true := by simp [h3]
  obtain ⟨na, nc, sa, sc, f0, rfl, -⟩ := ht.inv
  have HE := Lib.hid hE
  have hlX := hE.blk.lt
  have hB := hE.base
  have HL := Lib.hid (fun w' (hb : Below w.heap.size w w') cs' (ht' : TyC w' B d.ty cs') => h B X ia ic da dc ea ec L depth g cs' w' (hE.under hb) ht' hp)
  have HD := Lib.hid hd
  simp only [tyCells]
  clear hE ht hp h3 h hd
  go_enter Tryz.func98, Tryz.ntmps98
  go_upto_region 1 with fail
  obtain ⟨W, hWq, d0, d1, hz, hb⟩ := twoEX w #[.int .i64 t.kind, .string t.pkg, .int .i64 t.major, .string t.mod, .string t.name, .slice na t.names.length nc, .slice sa t.subs.length sc] #[.int .i64 0, .string { data := #[] }, .int .i64 0, .string { data := #[] }, .string { data := #[] }, .slice none 0 0, .slice none 0 0] 53 53
  rewrite [← hWq]; clear hWq
  have HB := Lib.hid hb
  have D1 := Lib.hid d1
  have hdc := xDecl_c B X E ia ic da dc ea ec L g t.name W (HE.out.under hb)
  rw [HD.out] at hdc
  have HDC := Lib.hid hdc
  obtain ⟨k0, k1, k2, k3, k4, k5, k6⟩ := cellsT7 d0
  have kl := d0.lt
  clear hb d0 d1 hdc
  go_upto_region 5 with (go_at_call 92; refine HDC.out.mono ?_; rintro e w2 ⟨cs1, rfl, hcs, hb1⟩; obtain ⟨hdf, nd, ne, sd, se, rfl, hty⟩ := hcs; simp only [dclCells, Option.getD_some] at hty ⊢; have B1 := Lib.hid hb1; have HTD := Lib.hid hty; clear hb1 hdf hty)
  clear k0 k1 k2 k3 k4 k5 k6 kl
  obtain ⟨W3, hWq, b3, hb3, hz3⟩ := laidNX w2 #[.int .i64 d.kind, .string d.name, .int .i64 d.ty.kind, .string d.ty.pkg, .int .i64 d.ty.major, .string d.ty.mod, .string d.ty.name, .slice nd d.ty.names.length ne, .slice sd d.ty.subs.length se] 55
  rewrite [← hWq]; clear hWq
  have HB3 := Lib.hid ((HB.out.trans (B1.out.mono (by omega))).trans (hb3.mono (by have := B1.out.size; omega)))
  have hs3 : W.heap.size < W3.heap.size := by have := B1.out.size; omega
  have D3 := Lib.hid ((D1.out.under B1.out D1.out.lt).under hb3 (Nat.lt_of_lt_of_le D1.out.lt B1.out.size))
  have HC := Lib.hid (HL.out W3 HB3.out _ (HTD.out.under (hb3.mono (show B ≤ w2.heap.size by have := B1.out.size; omega))))
  simp only [tyCells] at HC
  obtain ⟨k0, k1, k2, k3, k4, k5, k6, k7, k8⟩ := cellsT9 b3
  have kl := b3.lt
  clear b3 hb3 HL
  go_wp2_with (go_at_call 52; refine HC.out.mono ?_; rintro e w1 ⟨cs1, y, L', g', rfl, hty, hex, hfr, hpost⟩; obtain ⟨na1, nc1, sa1, sc1, f1, rfl, -⟩ := hty.inv; have HTY := Lib.hid hty; have HEX := Lib.hid hex; have HFR := Lib.hid hfr; have HPO := Lib.hid hpost; have q1 := D3.out.fr hfr (fun e => by have e : w.heap.size + 1 = X := e; omega); clear hty hex hfr hpost k0 k1 k2 k3 k4 k5 k6 k7 k8 kl; simp only [tyCells]; obtain ⟨e0, e1, e2, e3, e4, e5, e6⟩ := cellsT7 q1; have f0 := q1.free 0; have f1 := q1.free 1; have f2 := q1.free 2; have f3 := q1.free 3; have f4 := q1.free 4; have f5 := q1.free 5; have f6 := q1.free 6; have le := q1.lt; have Q1 := Lib.hid q1; clear q1)
  have hp := pf7 (.int .i64 y.kind) (.string y.pkg) (.int .i64 y.major) (.string y.mod) (.string y.name) (.slice na1 y.names.length nc1) (.slice sa1 y.subs.length sc1) Q1.out
  have hfz := fr7 w1 (g := w.heap.size + 1) (.int .i64 y.kind) (.string y.pkg) (.int .i64 y.major) (.string y.mod) (.string y.name) (.slice na1 y.names.length nc1) (.slice sa1 y.subs.length sc1)
  generalize (((((((w1.setCell ⟨w.heap.size + 1, 0, none⟩ (.int .i64 y.kind)).setCell ⟨w.heap.size + 1, 1, none⟩ (.string y.pkg)).setCell ⟨w.heap.size + 1, 2, none⟩ (.int .i64 y.major)).setCell ⟨w.heap.size + 1, 3, none⟩ (.string y.mod)).setCell ⟨w.heap.size + 1, 4, none⟩ (.string y.name)).setCell ⟨w.heap.size + 1, 5, none⟩ (.slice na1 y.names.length nc1)).setCell ⟨w.heap.size + 1, 6, none⟩ (.slice sa1 y.subs.length sc1)) = Wz at hp hfz ⊢
  obtain ⟨r0, r1, r2, r3, r4, r5, r6⟩ := cellsT7 hp
  obtain ⟨h1, h2, h3⟩ := fin_ret (w := w) HTY.out (Nat.le_succ _) (by omega) hlX HEX.out ((Fr.of_below HB3.out).trans HFR.out (fun b h => .inl h)) hfz
  refine bodyPost_ret (by simp [results, Tryz.results98, go_sem, r0, r1, r2, r3, r4, r5, r6]; try rfl) rfl ?_
  exact ⟨_, y, L', g', rfl, h1, h2, h3, HPO.out⟩

theorem loc_there {E : Env} {t x : Ty} (hm : t.mod.toList.isEmpty = false) (h : TypF 52 E (thereF E.m E.env t).1 x) : TypF 98 E t x := by
  intro B X ia ic da dc ea ec L depth g cs w hE ht hp
  obtain ⟨na, nc, sa, sc, f0, rfl, -⟩ := ht.inv
  have HE := Lib.hid hE
  have HT := Lib.hid ht
  have hlX := hE.blk.lt
  have hB := hE.base
  obtain ⟨⟨s, q⟩, hs⟩ : ∃ r, thereF E.m E.env t = r := ⟨_, rfl⟩
  rw [hs] at h
  have HL := Lib.hid (fun w' (hb : Below w.heap.size w w') cs' (ht' : TyC w' B s cs') => h B X ia ic da dc ea ec L depth g cs' w' (hE.under hb) ht' hp)
  have HS := Lib.hid hs
  simp only [tyCells] at HT ⊢
  clear hE ht hp h hs
  go_enter Tryz.func98, Tryz.ntmps98
  go_upto_region 1 with fail
  obtain ⟨W, hWq, d0, d1, hz, hb⟩ := twoEX w #[.int .i64 t.kind, .string t.pkg, .int .i64 t.major, .string t.mod, .string t.name, .slice na t.names.length nc, .slice sa t.subs.length sc] #[.int .i64 0, .string { data := #[] }, .int .i64 0, .string { data := #[] }, .string { data := #[] }, .slice none 0 0, .slice none 0 0] 53 53
  rewrite [← hWq]; clear hWq
  have HB := Lib.hid hb
  have D1 := Lib.hid d1
  have hdc := xThere_c B X E ia ic da dc ea ec L g t _ W (HE.out.under hb) (HT.out.under (hb.mono hB))
  rw [HS.out] at hdc
  have HDC := Lib.hid hdc
  obtain ⟨k0, k1, k2, k3, k4, k5, k6⟩ := cellsT7 d0
  have kl := d0.lt
  clear hb d0 d1 hdc
  go_upto_region 3 with (go_at_call 143; refine HDC.out.mono ?_; rintro e w2 ⟨cs1, rfl, hcs, hb1⟩; obtain ⟨nd, ne, sd, se, fd, rfl, -⟩ := hcs.inv; have HTD := Lib.hid hcs; simp only [tyCells]; have B1 := Lib.hid hb1; clear hb1 hcs)
  clear k0 k1 k2 k3 k4 k5 k6 kl
  obtain ⟨W3, hWq, b3, hb3, hz3⟩ := laidNX w2 #[.int .i64 s.kind, .string s.pkg, .int .i64 s.major, .string s.mod, .string s.name, .slice nd s.names.length ne, .slice sd s.subs.length se] 53
  rewrite [← hWq]; clear hWq
  have HB3 := Lib.hid ((HB.out.trans (B1.out.mono (by omega))).trans (hb3.mono (by have := B1.out.size; omega)))
  have hs3 : W.heap.size < W3.heap.size := by have := B1.out.size; omega
  have D3 := Lib.hid ((D1.out.under B1.out D1.out.lt).under hb3 (Nat.lt_of_lt_of_le D1.out.lt B1.out.size))
  have HC := Lib.hid (HL.out W3 HB3.out _ (HTD.out.under (hb3.mono (show B ≤ w2.heap.size by have := B1.out.size; omega))))
  simp only [tyCells] at HC
  obtain ⟨k0, k1, k2, k3, k4, k5, k6⟩ := cellsT7 b3
  have kl := b3.lt
  clear b3 hb3 HL
  go_wp2_with (go_at_call 52; refine HC.out.mono ?_; rintro e w1 ⟨cs1, y, L', g', rfl, hty, hex, hfr, hpost⟩; obtain ⟨na1, nc1, sa1, sc1, f1, rfl, -⟩ := hty.inv; have HTY := Lib.hid hty; have HEX := Lib.hid hex; have HFR := Lib.hid hfr; have HPO := Lib.hid hpost; have q1 := D3.out.fr hfr (fun e => by have e : w.heap.size + 1 = X := e; omega); clear hty hex hfr hpost k0 k1 k2 k3 k4 k5 k6 kl; simp only [tyCells]; obtain ⟨e0, e1, e2, e3, e4, e5, e6⟩ := cellsT7 q1; have f0 := q1.free 0; have f1 := q1.free 1; have f2 := q1.free 2; have f3 := q1.free 3; have f4 := q1.free 4; have f5 := q1.free 5; have f6 := q1.free 6; have le := q1.lt; have Q1 := Lib.hid q1; clear q1)
  have hp := pf7 (.int .i64 y.kind) (.string y.pkg) (.int .i64 y.major) (.string y.mod) (.string y.name) (.slice na1 y.names.length nc1) (.slice sa1 y.subs.length sc1) Q1.out
  have hfz := fr7 w1 (g := w.heap.size + 1) (.int .i64 y.kind) (.string y.pkg) (.int .i64 y.major) (.string y.mod) (.string y.name) (.slice na1 y.names.length nc1) (.slice sa1 y.subs.length sc1)
  generalize (((((((w1.setCell ⟨w.heap.size + 1, 0, none⟩ (.int .i64 y.kind)).setCell ⟨w.heap.size + 1, 1, none⟩ (.string y.pkg)).setCell ⟨w.heap.size + 1, 2, none⟩ (.int .i64 y.major)).setCell ⟨w.heap.size + 1, 3, none⟩ (.string y.mod)).setCell ⟨w.heap.size + 1, 4, none⟩ (.string y.name)).setCell ⟨w.heap.size + 1, 5, none⟩ (.slice na1 y.names.length nc1)).setCell ⟨w.heap.size + 1, 6, none⟩ (.slice sa1 y.subs.length sc1)) = Wz at hp hfz ⊢
  obtain ⟨r0, r1, r2, r3, r4, r5, r6⟩ := cellsT7 hp
  obtain ⟨h1, h2, h3⟩ := fin_ret (w := w) HTY.out (Nat.le_succ _) (by omega) hlX HEX.out ((Fr.of_below HB3.out).trans HFR.out (fun b h => .inl h)) hfz
  refine bodyPost_ret (by simp [results, Tryz.results98, go_sem, r0, r1, r2, r3, r4, r5, r6]; try rfl) rfl ?_
  exact ⟨_, y, L', g', rfl, h1, h2, h3, HPO.out⟩

theorem openT_c (w : World) (B : Nat) (E : Env) (s : ByteArray) (h1 : E.pkg.size ≤ maxLen) (h2 : -9223372036854775808 ≤ E.major ∧ E.major ≤ 9223372036854775807) (h3 : E.m.name.size ≤ maxLen) (h4 : s.size ≤ maxLen) :
    TyC w B (openT E s) #[.int .i64 9, .string E.pkg, .int .i64 E.major, .string E.m.name, .string s, .slice none 0 0, .slice none 0 0] :=
  .mk (openT E s) none 0 none 0 (fun _ => #[]) ⟨by simp [openT, Ty.kind], h2, h1, h3, h4, Nat.zero_le _, (fun s hs => by cases hs), Nat.zero_le _⟩ (.inl rfl) (.inl rfl) (Nat.le_refl _) (Nat.le_refl _) (fun i hi => absurd hi (by simp [openT, Ty.subs]))
theorem loc_opn {E : Env} {t : Ty} {d : Dcl} (hm : t.mod.toList.isEmpty = true) (hd : declOf E.m.decls t.name = some d) (h3 : d.kind ≠ 3) (hpk : E.pkg.size ≤ maxLen) (hmj : -9223372036854775808 ≤ E.major ∧ E.major ≤ 9223372036854775807)
    (h : TypF 52 E (openT E t.name) (openT E t.name)) : TypF 98 E t (openT E t.name) := by
  intro B X ia ic da dc ea ec L depth g cs w hE ht hp
  have hc3 : (d.kind == 3) = false := by simp [h3]
  obtain ⟨na, nc, sa, sc, f0, rfl, hft, -⟩ := ht.inv
  have HE := Lib.hid hE
  have hlX := hE.blk.lt
  have hB := hE.base
  have HL := Lib.hid (fun w' (hb : Below w.heap.size w w') => h B X ia ic da dc ea ec L depth g _ w' (hE.under hb) (openT_c w' B E t.name hpk hmj hE.mdl.name hft.name) hp)
  have HD := Lib.hid hd
  simp only [tyCells]
  clear hE ht hp h3 h hd hft hpk hmj
  go_enter Tryz.func98, Tryz.ntmps98
  go_upto_region 1 with fail
  obtain ⟨W, hWq, d0, d1, hz, hb⟩ := twoEX w #[.int .i64 t.kind, .string t.pkg, .int .i64 t.major, .string t.mod, .string t.name, .slice na t.names.length nc, .slice sa t.subs.length sc] #[.int .i64 0, .string { data := #[] }, .int .i64 0, .string { data := #[] }, .string { data := #[] }, .slice none 0 0, .slice none 0 0] 53 53
  rewrite [← hWq]; clear hWq
  have HB := Lib.hid hb
  have D1 := Lib.hid d1
  have D0 := Lib.hid d0
  have hdc := xDecl_c B X E ia ic da dc ea ec L g t.name W (HE.out.under hb)
  rw [HD.out] at hdc
  have HDC := Lib.hid hdc
  obtain ⟨k0, k1, k2, k3, k4, k5, k6⟩ := cellsT7 d0
  have kl := d0.lt
  clear hb d0 d1 hdc
  go_upto_region 5 with (go_at_call 92; refine HDC.out.mono ?_; rintro e w2 ⟨cs1, rfl, hcs, hb1⟩; obtain ⟨hdf, nd, ne, sd, se, rfl, hty⟩ := hcs; simp only [dclCells, Option.getD_some] at hty ⊢; have B1 := Lib.hid hb1; clear hb1 hdf hty)
  clear k0 k1 k2 k3 k4 k5 k6 kl
  obtain ⟨W3, hWq, b3, hb3, hz3⟩ := laidNX w2 #[.int .i64 d.kind, .string d.name, .int .i64 d.ty.kind, .string d.ty.pkg, .int .i64 d.ty.major, .string d.ty.mod, .string d.ty.name, .slice nd d.ty.names.length ne, .slice sd d.ty.subs.length se] 55
  rewrite [← hWq]; clear hWq
  have HB3 := Lib.hid ((HB.out.trans (B1.out.mono (by omega))).trans (hb3.mono (by have := B1.out.size; omega)))
  have hs3 : W.heap.size < W3.heap.size := by have := B1.out.size; omega
  have D3 := Lib.hid ((D1.out.under B1.out D1.out.lt).under hb3 (Nat.lt_of_lt_of_le D1.out.lt B1.out.size))
  have q0 := ((D0.out.under B1.out D0.out.lt).under hb3 (Nat.lt_of_lt_of_le D0.out.lt B1.out.size))
  obtain ⟨-, -, -, -, j4, -, -⟩ := cellsT7 q0
  have jl := q0.lt
  obtain ⟨k0, k1, k2, k3, k4, k5, k6, k7, k8⟩ := cellsT9 b3
  have kl := b3.lt
  clear b3 hb3 q0
  go_upto_region 7 with fail
  clear k0 k1 k2 k3 k4 k5 k6 k7 k8 kl
  have k4 := j4
  clear j4
  obtain ⟨x0, -, -, x3, x4, -, -, -⟩ := cellsT8 (HE.out.under HB3.out).blk
  have lx := (HE.out.under HB3.out).blk.lt
  refine wp_region_until [(18, fun w' => w'.cell? ⟨X, 3, none⟩ = some (.string E.pkg) ∧ w'.cell? ⟨X, 4, none⟩ = some (.int .i64 E.major) ∧ w'.cell? ⟨X, 0, none⟩ = some (.string E.m.name) ∧ w'.cell? ⟨w.heap.size, 4, none⟩ = some (.string t.name))] (by kernel_rfl) (Until.cons (fun _ => ⟨x3, x4, x0, k4⟩) Until.nil) (fun hU => ?_)
  refine AnyU.take (i := 0) (v := ?_) rfl (by kernel_rfl) (by kernel_rfl) (by kernel_rfl) (fun _ _ _ h => h) (by kernel_rfl) (by assumption) (by rfl) ?_ (fun hV => ?_)
  rotate_left 1
  · (intro wq; go_simp; try with_reducible rfl)
  clear hU; have hU := hV; clear hV
  try simp only [Act.put, aput]
  refine AnyU.take (i := 1) (v := ?_) rfl (by kernel_rfl) (by kernel_rfl) (by kernel_rfl) (fun _ _ _ h => h) (by kernel_rfl) (by assumption) (by rfl) ?_ (fun hV => ?_)
  rotate_left 1
  · (intro wq; go_simp; try with_reducible rfl)
  clear hU; have hU := hV; clear hV
  try simp only [Act.put, aput]
  refine AnyU.take (i := 2) (v := ?_) rfl (by kernel_rfl) (by kernel_rfl) (by kernel_rfl) (fun _ _ _ h => h) (by kernel_rfl) (by assumption) (by rfl) ?_ (fun hV => ?_)
  rotate_left 1
  · (intro wq; go_simp; try with_reducible rfl)
  clear hU; have hU := hV; clear hV
  try simp only [Act.put, aput]
  refine AnyU.take (i := 3) (v := ?_) rfl (by kernel_rfl) (by kernel_rfl) (by kernel_rfl) (fun _ _ _ h => h) (by kernel_rfl) (by assumption) (by rfl) ?_ (fun hV => ?_)
  rotate_left 1
  · (intro wq; go_simp; try with_reducible rfl)
  clear hU; have hU := hV; clear hV
  try simp only [Act.put, aput]
  refine AnyU.loadc (i := 4) (d := 18) [16, 18] (Si := fun w' => w'.cell? ⟨X, 3, none⟩ = some (.string E.pkg) ∧ w'.cell? ⟨X, 4, none⟩ = some (.int .i64 E.major) ∧ w'.cell? ⟨X, 0, none⟩ = some (.string E.m.name) ∧ w'.cell? ⟨w.heap.size, 4, none⟩ = some (.string t.name)) (v := ?_) rfl (by kernel_rfl) (by kernel_rfl) (by kernel_rfl) (fun _ _ _ h => h) (by kernel_rfl) (by assumption) (by kernel_rfl) rfl (by simp) (by rfl) ?_ (fun hV => ?_)
  rotate_left 1
  · (intro wq hq; obtain ⟨u, -⟩ := hq; go_simp; try with_reducible rfl)
  clear hU; have hU := hV; clear hV
  try simp only [Act.put, aput]
  refine AnyU.take (i := 5) (v := ?_) rfl (by kernel_rfl) (by kernel_rfl) (by kernel_rfl) (fun _ _ _ h => h) (by kernel_rfl) (by assumption) (by rfl) ?_ (fun hV => ?_)
  rotate_left 1
  · (intro wq; go_simp; try with_reducible rfl)
  clear hU; have hU := hV; clear hV
  try simp only [Act.put, aput]
  refine AnyU.take (i := 6) (v := ?_) rfl (by kernel_rfl) (by kernel_rfl) (by kernel_rfl) (fun _ _ _ h => h) (by kernel_rfl) (by assumption) (by rfl) ?_ (fun hV => ?_)
  rotate_left 1
  · (intro wq; go_simp; try with_reducible rfl)
  clear hU; have hU := hV; clear hV
  try simp only [Act.put, aput]
  refine AnyU.take (i := 7) (v := ?_) rfl (by kernel_rfl) (by kernel_rfl) (by kernel_rfl) (fun _ _ _ h => h) (by kernel_rfl) (by assumption) (by rfl) ?_ (fun hV => ?_)
  rotate_left 1
  · (intro wq; go_simp; try with_reducible rfl)
  clear hU; have hU := hV; clear hV
  try simp only [Act.put, aput]
  refine AnyU.loadc (i := 8) (d := 18) [16, 18] (Si := fun w' => w'.cell? ⟨X, 3, none⟩ = some (.string E.pkg) ∧ w'.cell? ⟨X, 4, none⟩ = some (.int .i64 E.major) ∧ w'.cell? ⟨X, 0, none⟩ = some (.string E.m.name) ∧ w'.cell? ⟨w.heap.size, 4, none⟩ = some (.string t.name)) (v := ?_) rfl (by kernel_rfl) (by kernel_rfl) (by kernel_rfl) (fun _ _ _ h => h) (by kernel_rfl) (by assumption) (by kernel_rfl) rfl (by simp) (by rfl) ?_ (fun hV => ?_)
  rotate_left 1
  · (intro wq hq; obtain ⟨-, u, -⟩ := hq; go_simp; try with_reducible rfl)
  clear hU; have hU := hV; clear hV
  try simp only [Act.put, aput]
  refine AnyU.take (i := 9) (v := ?_) rfl (by kernel_rfl) (by kernel_rfl) (by kernel_rfl) (fun _ _ _ h => h) (by kernel_rfl) (by assumption) (by rfl) ?_ (fun hV => ?_)
  rotate_left 1
  · (intro wq; go_simp; try with_reducible rfl)
  clear hU; have hU := hV; clear hV
  try simp only [Act.put, aput]
  refine AnyU.take (i := 10) (v := ?_) rfl (by kernel_rfl) (by kernel_rfl) (by kernel_rfl) (fun _ _ _ h => h) (by kernel_rfl) (by assumption) (by rfl) ?_ (fun hV => ?_)
  rotate_left 1
  · (intro wq; go_simp; try with_reducible rfl)
  clear hU; have hU := hV; clear hV
  try simp only [Act.put, aput]
  refine AnyU.take (i := 11) (v := ?_) rfl (by kernel_rfl) (by kernel_rfl) (by kernel_rfl) (fun _ _ _ h => h) (by kernel_rfl) (by assumption) (by rfl) ?_ (fun hV => ?_)
  rotate_left 1
  · (intro wq; go_simp; try with_reducible rfl)
  clear hU; have hU := hV; clear hV
  try simp only [Act.put, aput]
  refine AnyU.take (i := 12) (v := ?_) rfl (by kernel_rfl) (by kernel_rfl) (by kernel_rfl) (fun _ _ _ h => h) (by kernel_rfl) (by assumption) (by rfl) ?_ (fun hV => ?_)
  rotate_left 1
  · (intro wq; go_simp; try with_reducible rfl)
  clear hU; have hU := hV; clear hV
  try simp only [Act.put, aput]
  refine AnyU.loadc (i := 13) (d := 18) [16, 18] (Si := fun w' => w'.cell? ⟨X, 3, none⟩ = some (.string E.pkg) ∧ w'.cell? ⟨X, 4, none⟩ = some (.int .i64 E.major) ∧ w'.cell? ⟨X, 0, none⟩ = some (.string E.m.name) ∧ w'.cell? ⟨w.heap.size, 4, none⟩ = some (.string t.name)) (v := ?_) rfl (by kernel_rfl) (by kernel_rfl) (by kernel_rfl) (fun _ _ _ h => h) (by kernel_rfl) (by assumption) (by kernel_rfl) rfl (by simp) (by rfl) ?_ (fun hV => ?_)
  rotate_left 1
  · (intro wq hq; obtain ⟨-, -, u, -⟩ := hq; go_simp; try with_reducible rfl)
  clear hU; have hU := hV; clear hV
  try simp only [Act.put, aput]
  refine AnyU.take (i := 14) (v := ?_) rfl (by kernel_rfl) (by kernel_rfl) (by kernel_rfl) (fun _ _ _ h => h) (by kernel_rfl) (by assumption) (by rfl) ?_ (fun hV => ?_)
  rotate_left 1
  · (intro wq; go_simp; try with_reducible rfl)
  clear hU; have hU := hV; clear hV
  try simp only [Act.put, aput]
  refine AnyU.loadc (i := 15) (d := 18) [16, 18] (Si := fun w' => w'.cell? ⟨X, 3, none⟩ = some (.string E.pkg) ∧ w'.cell? ⟨X, 4, none⟩ = some (.int .i64 E.major) ∧ w'.cell? ⟨X, 0, none⟩ = some (.string E.m.name) ∧ w'.cell? ⟨w.heap.size, 4, none⟩ = some (.string t.name)) (v := ?_) rfl (by kernel_rfl) (by kernel_rfl) (by kernel_rfl) (fun _ _ _ h => h) (by kernel_rfl) (by assumption) (by kernel_rfl) rfl (by simp) (by rfl) ?_ (fun hV => ?_)
  rotate_left 1
  · (intro wq hq; obtain ⟨-, -, -, u⟩ := hq; go_simp; try with_reducible rfl)
  clear hU; have hU := hV; clear hV
  try simp only [Act.put, aput]
  refine AnyU.take (i := 16) (v := ?_) rfl (by kernel_rfl) (by kernel_rfl) (by kernel_rfl) (fun _ _ _ h => h) (by kernel_rfl) (by assumption) (by rfl) ?_ (fun hV => ?_)
  rotate_left 1
  · (intro wq; go_simp; try with_reducible rfl)
  clear hU; have hU := hV; clear hV
  try simp only [Act.put, aput]
  refine AnyU.take (i := 17) (v := ?_) rfl (by kernel_rfl) (by kernel_rfl) (by kernel_rfl) (fun _ _ _ h => h) (by kernel_rfl) (by assumption) (by rfl) ?_ (fun hV => ?_)
  rotate_left 1
  · (intro wq; go_simp; try with_reducible rfl)
  clear hU; have hU := hV; clear hV
  try simp only [Act.put, aput]
  refine AnyU.ready1 (i := 18) (by kernel_rfl) (AnyU.one rfl fun K hK => ?_)
  go_simp
  go_at_call 52
  refine (HL.out W3.drew HB3.out.drew).mono ?_
  rintro e w1 ⟨cs1, y, L', g', rfl, hty, hex, hfr, hpost⟩
  obtain ⟨na1, nc1, sa1, sc1, f1, rfl, -⟩ := hty.inv
  have HTY := Lib.hid (show TyM w1 (Fresh W3 w1) y _ from hty)
  have HEX := Lib.hid hex
  have HFR := Lib.hid (show Fr (· = X) w w1 from (Fr.of_below HB3.out.drew).trans hfr (fun b h => .inl h))
  have HPO := Lib.hid hpost
  have q1 := D3.out.drew.fr hfr (fun e => by have e : w.heap.size + 1 = X := e; omega)
  clear hty hex hfr hpost x3 x4 x0 k4
  simp only [tyCells]
  refine hK.out _ _ (Until.offT (by kernel_rfl)) (fun hV => ?_)
  clear hK K hU
  have hU := hV
  clear hV
  try simp only [Act.put, aput]
  obtain ⟨e0, e1, e2, e3, e4, e5, e6⟩ := cellsT7 q1
  have f0 := q1.free 0
  have f1 := q1.free 1
  have f2 := q1.free 2
  have f3 := q1.free 3
  have f4 := q1.free 4
  have f5 := q1.free 5
  have f6 := q1.free 6
  have le := q1.lt
  refine AnyU.ready1 (i := 19) (by kernel_rfl) (AnyU.one rfl fun K hK => ?_)
  go_simp
  have hp := pf7 (.int .i64 y.kind) (.string y.pkg) (.int .i64 y.major) (.string y.mod) (.string y.name) (.slice na1 y.names.length nc1) (.slice sa1 y.subs.length sc1) q1
  have hfz := fr7 w1 (g := w.heap.size + 1) (.int .i64 y.kind) (.string y.pkg) (.int .i64 y.major) (.string y.mod) (.string y.name) (.slice na1 y.names.length nc1) (.slice sa1 y.subs.length sc1)
  generalize (((((((w1.setCell ⟨w.heap.size + 1, 0, none⟩ (.int .i64 y.kind)).setCell ⟨w.heap.size + 1, 1, none⟩ (.string y.pkg)).setCell ⟨w.heap.size + 1, 2, none⟩ (.int .i64 y.major)).setCell ⟨w.heap.size + 1, 3, none⟩ (.string y.mod)).setCell ⟨w.heap.size + 1, 4, none⟩ (.string y.name)).setCell ⟨w.heap.size + 1, 5, none⟩ (.slice na1 y.names.length nc1)).setCell ⟨w.heap.size + 1, 6, none⟩ (.slice sa1 y.subs.length sc1)) = Wz at hp hfz ⊢
  refine hK.out _ _ (Until.offT (by kernel_rfl)) (fun hV => ?_)
  clear hK K hU
  have hU := hV
  clear hV
  try simp only [Act.put, aput]
  refine AnyU.done (by kernel_rfl) ?_
  go_wp2_with fail
  obtain ⟨r0, r1, r2, r3, r4, r5, r6⟩ := cellsT7 hp
  refine bodyPost_ret (by simp [results, Tryz.results98, go_sem, r0, r1, r2, r3, r4, r5, r6]; try rfl) rfl ?_
  obtain ⟨h1, h2, h3⟩ := fin_ret (w := w) HTY.out (Nat.le_succ _) (by omega) hlX HEX.out HFR.out hfz
  exact ⟨_, y, L', g', rfl, h1, h2, h3, HPO.out⟩
theorem zT_m (w : World) (M : Nat → Prop) : TyM w M zT #[.int .i64 0, .string { data := #[] }, .int .i64 0, .string { data := #[] }, .string { data := #[] }, .slice none 0 0, .slice none 0 0] :=
  .mk zT none 0 none 0 (fun _ => #[]) ⟨by simp [zT, Ty.kind], by simp [zT, Ty.major], Nat.zero_le _, Nat.zero_le _, Nat.zero_le _, Nat.zero_le _, (fun s hs => by cases hs), Nat.zero_le _⟩ (.inl rfl) (.inl rfl) (Nat.le_refl _) (Nat.le_refl _) (fun i hi => absurd hi (by simp [zT, Ty.subs]))
theorem post_stop {x : Ty} {L depth : Int} {g : Bool} (hp : TypPre L depth g) (hs : g = true ∨ L - 1 < 0 ∨ 32 < depth) : TypPost x L depth g zT (L - 1) true := by
  obtain ⟨h1, h2, h3, h4, h5⟩ := hp
  cases g
  · have h6 := h5 rfl
    have hm := many_pos x
    have hd := (deep_bound x).1
    refine .inr (.inr ⟨rfl, fun hf => ?_, rfl, by omega, by omega⟩)
    rcases hs with hs | hs | hs
    · cases hs
    · omega
    · omega
  · exact .inl ⟨rfl, rfl, rfl, rfl⟩
set_option maxRecDepth 100000 in
set_option maxHeartbeats 8000000 in
theorem typ_stop {E : Env} {t x : Ty} (h8 : t.kind ≠ 8) (B X : Nat) (ia : Option Addr) (ic : Nat) (da : Option Addr) (dc : Nat) (ea : Option Addr) (ec : Nat) (L depth : Int) (g : Bool) (cs : Array Value) (w : World) (hE : ExA w B X E ia ic da dc ea ec L g) (ht : TyC w B t cs) (hp : TypPre L depth g) (hs : g = true ∨ L - 1 < 0 ∨ 32 < depth) :
    Calls Tryz.prog 52 #[.pointer (some ⟨X, 0, none⟩), .agg cs, .int .i64 depth] w (TypRet w B X E ia ic da dc ea ec x L depth g) := by
  have HP := Lib.hid (post_stop (x := x) hp hs)
  have hc8 : (t.kind == 8) = false := by simp [h8]
  obtain ⟨na, nc, sa, sc, f0, rfl, -⟩ := ht.inv
  have HE := Lib.hid hE
  have hlX := hE.blk.lt
  have hL : -100000 ≤ L ∧ L ≤ 500 := by
    obtain ⟨h1, h2, h3, h4, h5⟩ := hp
    cases g
    · have := h5 rfl; omega
    · have := h4 rfl; omega
  obtain ⟨hL1, hL2⟩ := hL
  obtain ⟨-, hd1, hd2, -, -⟩ := hp
  simp only [tyCells]
  clear hE ht h8
  go_enter Tryz.func52, Tryz.ntmps52
  go_upto_region 1 with fail
  obtain ⟨W, hWq, d0, d1, hz, hb⟩ := twoEX w #[.int .i64 t.kind, .string t.pkg, .int .i64 t.major, .string t.mod, .string t.name, .slice na t.names.length nc, .slice sa t.subs.length sc] #[.int .i64 0, .string { data := #[] }, .int .i64 0, .string { data := #[] }, .string { data := #[] }, .slice none 0 0, .slice none 0 0] 53 53
  rewrite [← hWq]; clear hWq
  have HB := Lib.hid hb
  have D1 := Lib.hid d1
  have HX := Lib.hid (HE.out.under hb)
  obtain ⟨k0, k1, k2, k3, k4, k5, k6⟩ := cellsT7 d0
  have kl := d0.lt
  obtain ⟨x0, x1, x2, x3, x4, x5, x6, x7⟩ := cellsT8 HX.out.blk
  have lx := HX.out.blk.lt
  have f6 := HX.out.blk.free 6
  clear hb d0 d1
  go_upto_region 4 with fail
  have hx4 := HX.out.left (L - 1)
  have hf4 := fr1 W X 6 (.int .i64 (L - 1))
  clear x0 x1 x2 x3 x4 x5 x6 x7 lx f6 k0 k1 k2 k3 k4 k5 k6 kl
  generalize W.setCell ⟨X, 6, none⟩ (.int .i64 (L - 1)) = W4 at hx4 hf4 ⊢
  have HX4 := Lib.hid hx4
  have HF4 := Lib.hid hf4
  have D4 := Lib.hid (D1.out.fr hf4 (fun e => by have e : w.heap.size + 1 = X := e; omega))
  obtain ⟨x0, x1, x2, x3, x4, x5, x6, x7⟩ := cellsT8 hx4.blk
  have lx := hx4.blk.lt
  have f7 := hx4.blk.free 7
  clear hx4 hf4
  by_cases hbig : L - 1 < 0 ∨ 32 < depth
  · have key : ∃ T : World → Prop, True := ⟨fun _ => True, trivial⟩
    clear key hs
    rcases hbig with hbig | hbig
    · go_upto_region 6 with fail
      have hx5 := HX4.out.big
      have hf5 := fr1 W4 X 7 (.bool true)
      clear x0 x1 x2 x3 x4 x5 x6 x7 lx f7
      generalize W4.setCell ⟨X, 7, none⟩ (.bool true) = W5 at hx5 hf5 ⊢
      have d5 := D4.out.fr hf5 (fun e => by have e : w.heap.size + 1 = X := e; omega)
      have HX5 := Lib.hid hx5
      have HF5 := Lib.hid hf5
      obtain ⟨-, -, -, -, -, -, -, x7⟩ := cellsT8 hx5.blk
      have lx := hx5.blk.lt
      clear hx5 hf5
      obtain ⟨e0, e1, e2, e3, e4, e5, e6⟩ := cellsT7 d5
      have h0 := d5.free 0
      have h1 := d5.free 1
      have h2 := d5.free 2
      have h3 := d5.free 3
      have h4 := d5.free 4
      have h5 := d5.free 5
      have h6 := d5.free 6
      have le := d5.lt
      go_wp2_with fail
      have hq := pf7 (.int .i64 0) (.string { data := #[] }) (.int .i64 0) (.string { data := #[] }) (.string { data := #[] }) (.slice none 0 0) (.slice none 0 0) d5
      have hfz := fr7 W5 (g := w.heap.size + 1) (.int .i64 0) (.string { data := #[] }) (.int .i64 0) (.string { data := #[] }) (.string { data := #[] }) (.slice none 0 0) (.slice none 0 0)
      generalize (((((((W5.setCell ⟨w.heap.size + 1, 0, none⟩ (.int .i64 0)).setCell ⟨w.heap.size + 1, 1, none⟩ (.string { data := #[] })).setCell ⟨w.heap.size + 1, 2, none⟩ (.int .i64 0)).setCell ⟨w.heap.size + 1, 3, none⟩ (.string { data := #[] })).setCell ⟨w.heap.size + 1, 4, none⟩ (.string { data := #[] })).setCell ⟨w.heap.size + 1, 5, none⟩ (.slice none 0 0)).setCell ⟨w.heap.size + 1, 6, none⟩ (.slice none 0 0)) = Wz at hq hfz ⊢
      obtain ⟨r0, r1, r2, r3, r4, r5, r6⟩ := cellsT7 hq
      refine bodyPost_ret (by simp [results, Tryz.results52, go_sem, r0, r1, r2, r3, r4, r5, r6]; try rfl) rfl ?_
      exact ⟨_, zT, L - 1, true, rfl, zT_m _ _, HX5.out.fr hfz (fun b e => by have e : b = w.heap.size + 1 := e; omega), (((Fr.of_below HB.out).trans HF4.out (fun b h => .inl h)).trans HF5.out (fun b h => .inl h)).trans hfz (fun b e => .inr (by have e : b = w.heap.size + 1 := e; omega)), HP.out⟩
    · by_cases h0 : L - 1 < 0
      · go_upto_region 6 with fail
        have hx5 := HX4.out.big
        have hf5 := fr1 W4 X 7 (.bool true)
        clear x0 x1 x2 x3 x4 x5 x6 x7 lx f7
        generalize W4.setCell ⟨X, 7, none⟩ (.bool true) = W5 at hx5 hf5 ⊢
        have d5 := D4.out.fr hf5 (fun e => by have e : w.heap.size + 1 = X := e; omega)
        have HX5 := Lib.hid hx5
        have HF5 := Lib.hid hf5
        obtain ⟨-, -, -, -, -, -, -, x7⟩ := cellsT8 hx5.blk
        have lx := hx5.blk.lt
        clear hx5 hf5
        obtain ⟨e0, e1, e2, e3, e4, e5, e6⟩ := cellsT7 d5
        have h0 := d5.free 0
        have h1 := d5.free 1
        have h2 := d5.free 2
        have h3 := d5.free 3
        have h4 := d5.free 4
        have h5 := d5.free 5
        have h6 := d5.free 6
        have le := d5.lt
        go_wp2_with fail
        have hq := pf7 (.int .i64 0) (.string { data := #[] }) (.int .i64 0) (.string { data := #[] }) (.string { data := #[] }) (.slice none 0 0) (.slice none 0 0) d5
        have hfz := fr7 W5 (g := w.heap.size + 1) (.int .i64 0) (.string { data := #[] }) (.int .i64 0) (.string { data := #[] }) (.string { data := #[] }) (.slice none 0 0) (.slice none 0 0)
        generalize (((((((W5.setCell ⟨w.heap.size + 1, 0, none⟩ (.int .i64 0)).setCell ⟨w.heap.size + 1, 1, none⟩ (.string { data := #[] })).setCell ⟨w.heap.size + 1, 2, none⟩ (.int .i64 0)).setCell ⟨w.heap.size + 1, 3, none⟩ (.string { data := #[] })).setCell ⟨w.heap.size + 1, 4, none⟩ (.string { data := #[] })).setCell ⟨w.heap.size + 1, 5, none⟩ (.slice none 0 0)).setCell ⟨w.heap.size + 1, 6, none⟩ (.slice none 0 0)) = Wz at hq hfz ⊢
        obtain ⟨r0, r1, r2, r3, r4, r5, r6⟩ := cellsT7 hq
        refine bodyPost_ret (by simp [results, Tryz.results52, go_sem, r0, r1, r2, r3, r4, r5, r6]; try rfl) rfl ?_
        exact ⟨_, zT, L - 1, true, rfl, zT_m _ _, HX5.out.fr hfz (fun b e => by have e : b = w.heap.size + 1 := e; omega), (((Fr.of_below HB.out).trans HF4.out (fun b h => .inl h)).trans HF5.out (fun b h => .inl h)).trans hfz (fun b e => .inr (by have e : b = w.heap.size + 1 := e; omega)), HP.out⟩
      · go_upto_region 6 with fail
        have hx5 := HX4.out.big
        have hf5 := fr1 W4 X 7 (.bool true)
        clear x0 x1 x2 x3 x4 x5 x6 x7 lx f7
        generalize W4.setCell ⟨X, 7, none⟩ (.bool true) = W5 at hx5 hf5 ⊢
        have d5 := D4.out.fr hf5 (fun e => by have e : w.heap.size + 1 = X := e; omega)
        have HX5 := Lib.hid hx5
        have HF5 := Lib.hid hf5
        obtain ⟨-, -, -, -, -, -, -, x7⟩ := cellsT8 hx5.blk
        have lx := hx5.blk.lt
        clear hx5 hf5
        obtain ⟨e0, e1, e2, e3, e4, e5, e6⟩ := cellsT7 d5
        have h0 := d5.free 0
        have h1 := d5.free 1
        have h2 := d5.free 2
        have h3 := d5.free 3
        have h4 := d5.free 4
        have h5 := d5.free 5
        have h6 := d5.free 6
        have le := d5.lt
        go_wp2_with fail
        have hq := pf7 (.int .i64 0) (.string { data := #[] }) (.int .i64 0) (.string { data := #[] }) (.string { data := #[] }) (.slice none 0 0) (.slice none 0 0) d5
        have hfz := fr7 W5 (g := w.heap.size + 1) (.int .i64 0) (.string { data := #[] }) (.int .i64 0) (.string { data := #[] }) (.string { data := #[] }) (.slice none 0 0) (.slice none 0 0)
        generalize (((((((W5.setCell ⟨w.heap.size + 1, 0, none⟩ (.int .i64 0)).setCell ⟨w.heap.size + 1, 1, none⟩ (.string { data := #[] })).setCell ⟨w.heap.size + 1, 2, none⟩ (.int .i64 0)).setCell ⟨w.heap.size + 1, 3, none⟩ (.string { data := #[] })).setCell ⟨w.heap.size + 1, 4, none⟩ (.string { data := #[] })).setCell ⟨w.heap.size + 1, 5, none⟩ (.slice none 0 0)).setCell ⟨w.heap.size + 1, 6, none⟩ (.slice none 0 0)) = Wz at hq hfz ⊢
        obtain ⟨r0, r1, r2, r3, r4, r5, r6⟩ := cellsT7 hq
        refine bodyPost_ret (by simp [results, Tryz.results52, go_sem, r0, r1, r2, r3, r4, r5, r6]; try rfl) rfl ?_
        exact ⟨_, zT, L - 1, true, rfl, zT_m _ _, HX5.out.fr hfz (fun b e => by have e : b = w.heap.size + 1 := e; omega), (((Fr.of_below HB.out).trans HF4.out (fun b h => .inl h)).trans HF5.out (fun b h => .inl h)).trans hfz (fun b e => .inr (by have e : b = w.heap.size + 1 := e; omega)), HP.out⟩
  · have hg : g = true := by
      rcases hs with h | h | h
      · exact h
      · exact absurd (.inl h) hbig
      · exact absurd (.inr h) hbig
    subst hg
    have h01 : ¬ L - 1 < 0 := fun h => hbig (.inl h)
    have h02 : ¬ 32 < depth := fun h => hbig (.inr h)
    clear hbig hs
    go_upto_region 6 with fail
    obtain ⟨e0, e1, e2, e3, e4, e5, e6⟩ := cellsT7 D4.out
    have h0 := D4.out.free 0
    have h1 := D4.out.free 1
    have h2 := D4.out.free 2
    have h3 := D4.out.free 3
    have h4 := D4.out.free 4
    have h5 := D4.out.free 5
    have h6 := D4.out.free 6
    have le := D4.out.lt
    go_wp2_with fail
    have hq := pf7 (.int .i64 0) (.string { data := #[] }) (.int .i64 0) (.string { data := #[] }) (.string { data := #[] }) (.slice none 0 0) (.slice none 0 0) D4.out
    have hfz := fr7 W4 (g := w.heap.size + 1) (.int .i64 0) (.string { data := #[] }) (.int .i64 0) (.string { data := #[] }) (.string { data := #[] }) (.slice none 0 0) (.slice none 0 0)
    generalize (((((((W4.setCell ⟨w.heap.size + 1, 0, none⟩ (.int .i64 0)).setCell ⟨w.heap.size + 1, 1, none⟩ (.string { data := #[] })).setCell ⟨w.heap.size + 1, 2, none⟩ (.int .i64 0)).setCell ⟨w.heap.size + 1, 3, none⟩ (.string { data := #[] })).setCell ⟨w.heap.size + 1, 4, none⟩ (.string { data := #[] })).setCell ⟨w.heap.size + 1, 5, none⟩ (.slice none 0 0)).setCell ⟨w.heap.size + 1, 6, none⟩ (.slice none 0 0)) = Wz at hq hfz ⊢
    obtain ⟨r0, r1, r2, r3, r4, r5, r6⟩ := cellsT7 hq
    refine bodyPost_ret (by simp [results, Tryz.results52, go_sem, r0, r1, r2, r3, r4, r5, r6]; try rfl) rfl ?_
    exact ⟨_, zT, L - 1, true, rfl, zT_m _ _, HX4.out.fr hfz (fun b e => by have e : b = w.heap.size + 1 := e; omega), ((Fr.of_below HB.out).trans HF4.out (fun b h => .inl h)).trans hfz (fun b e => .inr (by have e : b = w.heap.size + 1 := e; omega)), HP.out⟩
end Go.Proofs.YtjeldfipipkfiaaGreat
