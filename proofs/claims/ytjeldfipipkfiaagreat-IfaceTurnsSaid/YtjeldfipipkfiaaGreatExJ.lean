/- The contracts of expand.each over a bound method, and of the expander's known, had, complete; memory: an expander, a type. -/
import Derived.Test.YtjeldfipipkfiaaGreatExI
import Derived.Test.YtjeldfipipkfiaaGreatMenM
namespace Go.Proofs.YtjeldfipipkfiaaGreat
open Go.RowKit
set_option linter.unusedSimpArgs false
set_option linter.unusedVariables false
theorem localsL_all {p : Ty → Bool} : ∀ (l : List Ty), (localsL l).all p = !(l.any fun s => !((localsT s).all p))
  | [] => by simp [localsL]
  | s :: l => by rw [localsL, List.all_append, localsL_all l, List.any_cons]; cases (localsT s).all p <;> simp
theorem subs_many (t : Ty) : (t.subs.length : Int) + 1 ≤ manyT t := by
  have key : ∀ l : List Ty, (l.length : Int) ≤ manyL l := by
    intro l
    induction l with
    | nil => rw [manyL]; exact Int.le_refl 0
    | cons s l ih => have := many_pos s; rw [manyL, List.length_cons]; omega
  have := key t.subs
  rw [manyT_eq]; omega
theorem child_many {t s : Ty} (h : s ∈ t.subs) : manyT s + 1 ≤ manyT t := by
  have := manyL_mem h
  rw [manyT_eq t]; omega
theorem each_all (t : Ty) (p : Ty → Bool) : (localsT t).all p = ((if t.kind = 8 then p t else true) && !(t.subs.any fun s => !((localsT s).all p))) := by
  rw [localsT_eq, List.all_append, localsL_all]
  split <;> simp
set_option maxHeartbeats 4000000 in
theorem each1_c (fn : Nat) (xv : Value) (x : Ty) (r : Bool) (gb : Nat) (na : Option Addr) (nc : Nat) (sa : Option Addr) (sc : Nat) (w : World) (hx : Blk w gb #[.func (.func fn) #[xv] #[]] 58)
    (hc : ∀ w'', Below w.heap.size w w'' → Calls Tryz.prog 49 #[.agg (tyCells x na nc sa sc), .func (.func fn) #[xv] #[]] w'' fun e w3 => e = .returned (.bool r) ∧ Below w''.heap.size w'' w3) :
    Calls Tryz.prog 91 #[.agg (tyCells x na nc sa sc), .pointer (some ⟨gb, 0, none⟩)] w fun e w' => e = .returned (.bool (!r)) ∧ Below w.heap.size w w' := by
  have HC := Lib.hid hc
  have HX := Lib.hid hx
  simp only [tyCells] at HC ⊢
  clear hc hx
  go_enter Tryz.func91, Tryz.ntmps91
  go_upto_region 1 with fail
  obtain ⟨W, hWq, d0, hb, -⟩ := laidNX w #[.int .i64 x.kind, .string x.pkg, .int .i64 x.major, .string x.mod, .string x.name, .slice na x.names.length nc, .slice sa x.subs.length sc] 53
  rewrite [← hWq]; clear hWq
  obtain ⟨k0, k1, k2, k3, k4, k5, k6⟩ := cellsT7 d0
  have kl := d0.lt
  have HB := Lib.hid hb
  have q := HX.out.under hb HX.out.lt
  have j0 := cellsT1 q
  have jl := q.lt
  clear hb d0 q
  go_wp2_with (go_at_call 49; refine (HC.out _ HB.out).mono ?_; rintro e w1 ⟨rfl, hb1⟩; have B1 := Lib.hid hb1; clear hb1)
  go_ret
  exact ⟨rfl, HB.out.trans (B1.out.mono HB.out.size)⟩
set_option maxRecDepth 100000 in
set_option maxHeartbeats 8000000 in
theorem each_c (fn : Nat) (xv : Value) (p : Ty → Bool) (B : Nat) (hfn : ∀ (a : Array Value) (w : World), (callFunc fn a).run Tryz.prog w = .ok (.enter fn a) w) :
    ∀ (t : Ty) (cs : Array Value) (w : World), TyC w B t cs → B ≤ w.heap.size → manyT t ≤ 1000000 → (∀ w', Below w.heap.size w w' → ∀ l ∈ localsT t, ∀ cs', TyC w' B l cs' → Calls Tryz.prog fn #[xv, .agg cs'] w' fun e w'' => e = .returned (.bool (p l)) ∧ Below w'.heap.size w' w'') →
      Calls Tryz.prog 49 #[.agg cs, .func (.func fn) #[xv] #[]] w fun e w' => e = .returned (.bool ((localsT t).all p)) ∧ Below w.heap.size w w' := by
  intro t
  induction t using Ty.ind with
  | h t ih =>
    intro cs w ht hB hmt hp
    have hsl0 := subs_many t
    have MT := Lib.hid hmt
    have IH := Lib.hid ih
    have HP := Lib.hid hp
    obtain ⟨na, nc, sa, sc, f, rfl, hf, hn, hs, hnc, hsc, hsub⟩ := ht.inv
    have HT := Lib.hid ht
    have HTS := Lib.hid (show TysAt w B sa t.subs from ⟨f, hs, hsub⟩)
    have hnm : t.subs.length ≤ 1000000 := by omega
    have HE := Lib.hid (each_all t p)
    obtain ⟨R, hR⟩ : ∃ R, (localsT t).all p = R := ⟨_, rfl⟩
    rw [hR]
    have HR := Lib.hid hR
    clear hs hsub ih hn hf ht hp hR hmt hsl0
    simp only [tyCells]
    go_enter Tryz.func49, Tryz.ntmps49
    go_upto_region 1 with fail
    obtain ⟨W, hWq, d0, d1, hz, hb⟩ := twoEX w #[.int .i64 t.kind, .string t.pkg, .int .i64 t.major, .string t.mod, .string t.name, .slice na t.names.length nc, .slice sa t.subs.length sc] #[.func (.func fn) #[xv] #[]] 53 58
    rewrite [← hWq]; clear hWq
    have HB := Lib.hid hb
    have D0 := Lib.hid d0
    have D1 := Lib.hid d1
    clear hb d0 d1
    obtain ⟨k0, k1, k2, k3, k4, k5, k6⟩ := cellsT7 D0.out
    have kl := D0.out.lt
    have j0 := cellsT1 D1.out
    have jl := D1.out.lt
    have hany := fun (W1 : World) (hb : Below W.heap.size W W1) (D : Hid (Blk W1 (w.heap.size + 1) #[.func (.func fn) #[xv] #[]] 58)) =>
      conTy_c 91 (.pointer (some ⟨w.heap.size + 1, 0, none⟩)) (fun s => !((localsT s).all p)) sa sc B t.subs W1 (HTS.out.under ((HB.out.trans (hb.mono (by omega))).mono hB)) (by have := hb.size; omega) (by omega) (by intro a w; rfl)
        (fun w' hb' x hx na' nc' sa' sc' hty => by
          have hx1 : ∀ w'', Below w'.heap.size w' w'' → Calls Tryz.prog 49 #[.agg (tyCells x na' nc' sa' sc'), .func (.func fn) #[xv] #[]] w'' fun e w3 => e = .returned (.bool ((localsT x).all p)) ∧ Below w''.heap.size w'' w3 := fun w'' hb'' =>
            IH.out x hx _ w'' (hty.under (hb''.mono (by have := hb.size; have := hb'.size; omega))) (by have := hb.size; have := hb'.size; have := hb''.size; omega) (by have := child_many hx; have := MT.out; omega) (fun w3 hb3 l hl cs' hc' =>
              HP.out w3 ((((HB.out.trans (hb.mono (by omega))).trans (hb'.mono (by have := hb.size; omega))).trans (hb''.mono (by have := hb.size; have := hb'.size; omega))).trans (hb3.mono (by have := hb.size; have := hb'.size; have := hb''.size; omega))) l (by rw [localsT_eq, List.mem_append]; exact .inr (localsL_mem hx l hl)) cs' hc')
          have := each1_c fn xv x ((localsT x).all p) (w.heap.size + 1) na' nc' sa' sc' w' (D.out.under hb' D.out.lt) hx1
          simpa using this)
    have HANY := Lib.hid hany
    obtain ⟨q, hq⟩ : ∃ q, (t.subs.any fun s => !((localsT s).all p)) = q := ⟨_, rfl⟩
    rw [hq] at HE HANY
    clear hany hq
    by_cases h8 : t.kind = 8
    · have hc8 : (t.kind == 8) = true := by simp [h8]
      have HC := Lib.hid (HP.out W HB.out t (local_mem h8) _ (HT.out.under (HB.out.mono hB)))
      simp only [tyCells] at HC
      obtain ⟨v, hv⟩ : ∃ v, p t = v := ⟨_, rfl⟩
      rw [hv] at HC
      have hr := HR.out.symm.trans HE.out
      rw [if_pos h8, hv] at hr
      have HRR := Lib.hid hr
      clear hr hv h8 HR HE HP
      cases v
      · obtain rfl : R = false := HRR.out
        go_wp2_with fail
        refine HC.out.mono ?_
        rintro e w1 ⟨rfl, hb1⟩
        have B1 := Lib.hid (HB.out.trans (hb1.mono HB.out.size))
        clear hb1
        go_wp2_with fail
        go_ret
        exact ⟨rfl, B1.out⟩
      · go_wp2_with fail
        refine HC.out.mono ?_
        rintro e w1 ⟨rfl, hb1⟩
        have B1 := Lib.hid (HB.out.trans (hb1.mono HB.out.size))
        have HH := Lib.hid (HANY.out w1 hb1 (Lib.hid (D1.out.under hb1 D1.out.lt)))
        have q0 := D0.out.under hb1 D0.out.lt
        clear hb1 k0 k1 k2 k3 k4 k5 k6 kl j0 jl HANY
        obtain ⟨k0, k1, k2, k3, k4, k5, k6⟩ := cellsT7 q0
        have kl := q0.lt
        clear q0
        go_wp2_with (go_at_call 90; refine HH.out.mono ?_; rintro e w2 ⟨rfl, hb2⟩; have B2 := Lib.hid (B1.out.trans (hb2.mono B1.out.size)); clear hb2)
        go_ret
        exact ⟨ret_b (by rw [HRR.out]; simp), B2.out⟩
    · have hc8 : (t.kind == 8) = false := by simp [h8]
      have hr := HR.out.symm.trans HE.out
      rw [if_neg h8] at hr
      have HRR := Lib.hid hr
      have HH := Lib.hid (HANY.out W (Below.refl _ _) D1)
      clear hr h8 HR HE HP HANY
      go_wp2_with (go_at_call 90; refine HH.out.mono ?_; rintro e w2 ⟨rfl, hb2⟩; have B2 := Lib.hid (HB.out.trans (hb2.mono HB.out.size)); clear hb2)
      go_ret
      exact ⟨ret_b (by rw [HRR.out]; simp), B2.out⟩
set_option maxHeartbeats 4000000 in
theorem known1_c (x : Imp) (s : ByteArray) (gb : Nat) (w : World) (h3 : w.cell? ⟨gb, 3, none⟩ = some (.string s)) (hlt : gb < w.heap.size) :
    Calls Tryz.prog 93 #[.agg (impCells x), .pointer (some ⟨gb, 0, none⟩)] w fun e w' => e = .returned (.bool (isImp s x)) ∧ Below w.heap.size w w' := by
  simp only [impCells]
  go_enter Tryz.func93, Tryz.ntmps93
  go_wp2_with fail
  go_ret
  exact ⟨rfl, (Below.refl _ _).alloc (Nat.le_refl _) _⟩
set_option maxRecDepth 100000 in
set_option maxHeartbeats 8000000 in
theorem xKnown_c (B X : Nat) (E : Env) (ia : Option Addr) (ic : Nat) (da : Option Addr) (dc : Nat) (ea : Option Addr) (ec : Nat) (L : Int) (g : Bool) (t : Ty) (cs : Array Value) (w : World) (hE : ExA w B X E ia ic da dc ea ec L g) (ht : TyC w B t cs) :
    Calls Tryz.prog 50 #[.pointer (some ⟨X, 0, none⟩), .agg cs] w fun e w' => e = .returned (.bool (knownL E.m t)) ∧ Below w.heap.size w w' := by
  obtain ⟨na, nc, sa, sc, f0, rfl, -⟩ := ht.inv
  have HE := Lib.hid hE
  obtain ⟨R, hR⟩ : ∃ R, knownL E.m t = R := ⟨_, rfl⟩
  rw [hR]
  have HR := Lib.hid hR
  clear hE hR ht
  simp only [tyCells]
  go_enter Tryz.func50, Tryz.ntmps50
  go_upto_region 1 with fail
  obtain ⟨W, hWq, d0, hb, hz⟩ := laidNX w #[.int .i64 t.kind, .string t.pkg, .int .i64 t.major, .string t.mod, .string t.name, .slice na t.names.length nc, .slice sa t.subs.length sc] 53
  rewrite [← hWq]; clear hWq
  have HB := Lib.hid hb
  have D0 := Lib.hid d0
  have HX0 := Lib.hid (HE.out.under hb)
  have hlX := HE.out.blk.lt
  clear hb d0
  obtain ⟨k0, k1, k2, k3, k4, k5, k6⟩ := cellsT7 D0.out
  have kl := D0.out.lt
  cases hm : t.mod.toList.isEmpty
  · have hr := HR.out.symm.trans (show knownL E.m t = E.m.imps.any fun x => isImp t.mod x by rw [knownL, hm]; rfl)
    have HC := Lib.hid (conImp_c 93 (.pointer (some ⟨w.heap.size, 0, none⟩)) (isImp t.mod) ia ic B E.m.imps W HX0.out.mdl.imps HX0.out.base HE.out.ni (by intro a w; rfl) (fun w' hb' x hx => known1_c x t.mod w.heap.size w' ((D0.out.under hb' D0.out.lt).cell 3) (Nat.lt_of_lt_of_le D0.out.lt hb'.size)))
    obtain ⟨x0, x1, x2, x3, x4, x5, x6, x7⟩ := cellsT8 HX0.out.blk
    have lx := HX0.out.blk.lt
    have HRR := Lib.hid hr
    clear hr HR
    go_wp2_with (go_at_call 38; refine HC.out.mono ?_; rintro e w1 ⟨rfl, hb1⟩; have B1 := Lib.hid hb1; clear hb1)
    go_ret
    exact ⟨ret_b HRR.out.symm, HB.out.trans (B1.out.mono HB.out.size)⟩
  · have hr := HR.out.symm.trans (show knownL E.m t = (declOf E.m.decls t.name).isSome by rw [knownL, hm, ← hasD_of]; rfl)
    have HC := Lib.hid (xDecl_c B X E ia ic da dc ea ec L g t.name W HX0.out)
    have HRR := Lib.hid hr
    clear hr HR
    go_wp2_with (go_at_call 92; refine HC.out.mono ?_; rintro e w1 ⟨cs1, rfl, hcs, hb1⟩; obtain ⟨hdf, na1, nc1, sa1, sc1, rfl, -⟩ := hcs; simp only [dclCells]; have B1 := Lib.hid hb1; clear hb1 hdf)
    go_ret
    exact ⟨ret_b HRR.out.symm, (HB.out.trans (B1.out.mono HB.out.size)).alloc (by have := B1.out.size; omega) _⟩
set_option maxRecDepth 100000 in
set_option maxHeartbeats 8000000 in
theorem xHad_c (B X : Nat) (E : Env) (ia : Option Addr) (ic : Nat) (da : Option Addr) (dc : Nat) (ea : Option Addr) (ec : Nat) (L : Int) (g : Bool) (t : Ty) (cs : Array Value) (w : World) (hE : ExA w B X E ia ic da dc ea ec L g) (ht : TyC w B t cs) :
    Calls Tryz.prog 94 #[.pointer (some ⟨X, 0, none⟩), .agg cs] w fun e w' => e = .returned (.bool (hadB E t)) ∧ Below w.heap.size w w' := by
  obtain ⟨na, nc, sa, sc, f0, rfl, -⟩ := ht.inv
  have HE := Lib.hid hE
  have HT := Lib.hid ht
  obtain ⟨R, hR⟩ : ∃ R, hadB E t = R := ⟨_, rfl⟩
  rw [hR]
  have HR := Lib.hid hR
  clear hE hR ht
  simp only [tyCells] at HT ⊢
  go_enter Tryz.func94, Tryz.ntmps94
  go_upto_region 1 with fail
  obtain ⟨W, hWq, d0, hb, hz⟩ := laidNX w #[.int .i64 t.kind, .string t.pkg, .int .i64 t.major, .string t.mod, .string t.name, .slice na t.names.length nc, .slice sa t.subs.length sc] 53
  rewrite [← hWq]; clear hWq
  have HB := Lib.hid hb
  have D0 := Lib.hid d0
  have HX0 := Lib.hid (HE.out.under hb)
  have hlX := HE.out.blk.lt
  have hB := HE.out.base
  clear hb d0
  obtain ⟨k0, k1, k2, k3, k4, k5, k6⟩ := cellsT7 D0.out
  have kl := D0.out.lt
  cases hm : t.mod.toList.isEmpty
  · have hr := HR.out.symm.trans (show hadB E t = (thereF E.m E.env t).2 by rw [hadB, hm]; rfl)
    have HC := Lib.hid (xThere_c B X E ia ic da dc ea ec L g t _ W HX0.out (HT.out.under (HB.out.mono hB)))
    have HRR := Lib.hid hr
    clear hr HR
    go_wp2_with (go_at_call 143; refine HC.out.mono ?_; rintro e w1 ⟨cs1, rfl, hcs, hb1⟩; obtain ⟨na1, nc1, sa1, sc1, f1, rfl, -⟩ := hcs.inv; simp only [tyCells]; have B1 := Lib.hid hb1; clear hb1 hcs)
    go_ret
    exact ⟨ret_b HRR.out.symm, (HB.out.trans (B1.out.mono HB.out.size)).alloc (by have := B1.out.size; omega) _⟩
  · have hr := HR.out.symm.trans (show hadB E t = true by rw [hadB, hm]; rfl)
    have HRR := Lib.hid hr
    clear hr HR
    go_wp2_with fail
    go_ret
    exact ⟨ret_b HRR.out.symm, HB.out⟩
theorem next_all {ds : List Dcl} (hd : ∀ d ∈ ds, dclOk d = true) (s : ByteArray) (p : Ty → Bool) : (localsT ((declOf ds s).getD zDx).ty).all p = (nextD ds s).all p := by
  rw [nextD_of]
  cases h : declOf ds s with
  | none =>
    show (localsT zT).all p = _
    have : localsT zT = [] := by rw [localsT_eq]; show (if (0 : Int) = 8 then _ else []) ++ localsL [] = _; rw [if_neg (by decide), localsL]; rfl
    rw [this]
  | some d =>
    show (localsT d.ty).all p = (if d.kind = 3 then localsT d.ty else []).all p
    by_cases h3 : d.kind = 3
    · rw [if_pos h3]
    · rw [if_neg h3]
      obtain ⟨hm, -, h4⟩ := declOf_mem h
      have hok := hd d hm
      rw [dclOk] at hok
      by_cases h12 : d.kind = 1 ∨ d.kind = 2
      · rw [if_pos h12, Bool.and_eq_true] at hok
        rw [nothing_locals hok.2]
      · rw [if_neg h12, if_neg h3, if_neg h4] at hok; cases hok
set_option maxRecDepth 100000 in
set_option maxHeartbeats 8000000 in
theorem compl1_c (B X : Nat) (E : Env) (ia : Option Addr) (ic : Nat) (da : Option Addr) (dc : Nat) (ea : Option Addr) (ec : Nat) (L : Int) (g : Bool) (s : ByteArray) (xb : Nat) (w : World) (hE : ExA w B X E ia ic da dc ea ec L g) (hx : Blk w xb #[.pointer (some ⟨X, 0, none⟩)] 94) (hmay : mayM E.m = true) :
    Calls Tryz.prog 97 #[.string s, .pointer (some ⟨xb, 0, none⟩)] w fun e w' => e = .returned (.bool (!((nextD E.m.decls s).all (hadB E)))) ∧ Below w.heap.size w w' := by
  have HE := Lib.hid hE
  have HX := Lib.hid hx
  obtain ⟨R, hR⟩ : ∃ R, (nextD E.m.decls s).all (hadB E) = R := ⟨_, rfl⟩
  rw [hR]
  have hdo := (mayM_iff.1 hmay).2.2.2.2
  have HR := Lib.hid ((next_all hdo s (hadB E)).trans hR)
  obtain ⟨d, hd⟩ : ∃ d, (declOf E.m.decls s).getD zDx = d := ⟨_, rfl⟩
  rw [hd] at HR
  have hdm : manyT d.ty ≤ 1000000 := by
    rw [← hd]
    cases h : declOf E.m.decls s with
    | none => show manyT zT ≤ _; rw [manyT_eq]; show 1 + manyL [] ≤ _; rw [manyL]; decide
    | some x =>
      show manyT x.ty ≤ _
      obtain ⟨hm, -, h4⟩ := declOf_mem h
      have hok := hdo x hm
      rw [dclOk] at hok
      by_cases h12 : x.kind = 1 ∨ x.kind = 2
      · rw [if_pos h12, Bool.and_eq_true] at hok
        have hn := hok.2
        simp only [nothingB, Bool.and_eq_true, decide_eq_true_eq] at hn
        rw [manyT_eq, List.eq_nil_of_length_eq_zero hn.2.2.2.2.2.2, manyL]; decide
      · rw [if_neg h12] at hok
        have hmt : mayT x.ty = true := by
          by_cases h3 : x.kind = 3
          · rw [if_pos h3, Bool.and_eq_true] at hok; exact hok.2
          · rw [if_neg h3] at hok
            by_cases h4 : x.kind = 4
            · rw [if_pos h4, Bool.and_eq_true] at hok; exact hok.2
            · rw [if_neg h4] at hok; cases hok
        rw [may_is, mayR, Bool.and_eq_true, Bool.and_eq_true, decide_eq_true_eq, decide_eq_true_eq] at hmt
        omega
  have hc := xDecl_c B X E ia ic da dc ea ec L g s w hE
  rw [hd] at hc
  have HC := Lib.hid hc
  have HD := Lib.hid hdm
  have hB := hE.base
  have j0 := cellsT1 hx
  have jl := hx.lt
  have hlX := hE.blk.lt
  clear hE hx hR hd hc hdm hmay hdo
  go_enter Tryz.func97, Tryz.ntmps97
  go_upto_region 2 with (go_at_call 92; refine HC.out.mono ?_; rintro e w1 ⟨cs1, rfl, hcs, hb1⟩; obtain ⟨hdf, na, nc, sa, sc, rfl, hty⟩ := hcs; simp only [dclCells]; have B1 := Lib.hid hb1; have HTY := Lib.hid hty; clear hb1 hdf hty)
  obtain ⟨W, hWq, d0, hb, hz⟩ := laidNX w1 #[.int .i64 d.kind, .string d.name, .int .i64 d.ty.kind, .string d.ty.pkg, .int .i64 d.ty.major, .string d.ty.mod, .string d.ty.name, .slice na d.ty.names.length nc, .slice sa d.ty.subs.length sc] 55
  rewrite [← hWq]; clear hWq
  have HB := Lib.hid (B1.out.trans (hb.mono B1.out.size))
  have HX0 := Lib.hid (HE.out.under HB.out)
  have q := HX.out.under HB.out HX.out.lt
  clear j0 jl
  have j0 := cellsT1 q
  have jl := q.lt
  have hBW : B ≤ W.heap.size := Nat.le_trans hB HB.out.size
  have HT2 := Lib.hid (HTY.out.under (hb.mono (show B ≤ w1.heap.size by have := B1.out.size; omega)))
  obtain ⟨k0, k1, k2, k3, k4, k5, k6, k7, k8⟩ := cellsT9 d0
  have kl := d0.lt
  have HEA := Lib.hid (each_c 94 (.pointer (some ⟨X, 0, none⟩)) (hadB E) B (by intro a w; rfl) d.ty _ W HT2.out hBW HD.out (fun w' hb' l _ cs' hl => xHad_c B X E ia ic da dc ea ec L g l cs' w' (HX0.out.under hb') hl))
  rw [HR.out] at HEA
  simp only [tyCells] at HEA
  clear hb d0 q HC
  go_wp2_with (go_at_call 49; refine HEA.out.mono ?_; rintro e w2 ⟨rfl, hb2⟩; have B2 := Lib.hid (HB.out.trans (hb2.mono HB.out.size)); clear hb2)
  go_ret
  exact ⟨rfl, B2.out⟩
theorem sort_any (l : List ByteArray) (p : ByteArray → Bool) : (sortN l).any p = l.any p := by
  rw [Bool.eq_iff_iff, List.any_eq_true, List.any_eq_true]
  constructor
  · rintro ⟨x, hx, h⟩
    rw [sortN, mem_uB, List.mem_mergeSort, mem_uL] at hx
    exact ⟨x, hx, h⟩
  · rintro ⟨x, hx, h⟩
    exact ⟨x, by rw [sortN, mem_uB, List.mem_mergeSort, mem_uL]; exact hx, h⟩
set_option maxRecDepth 100000 in
set_option maxHeartbeats 8000000 in
theorem xCompl_c (B X : Nat) (E : Env) (ia : Option Addr) (ic : Nat) (da : Option Addr) (dc : Nat) (ea : Option Addr) (ec : Nat) (L : Int) (g : Bool) (t : Ty) (cs : Array Value) (w : World) (hE : ExA w B X E ia ic da dc ea ec L g) (ht : TyC w B t cs) (hmay : mayM E.m = true) (hmt : mayT t = true) :
    Calls Tryz.prog 51 #[.pointer (some ⟨X, 0, none⟩), .agg cs] w fun e w' => e = .returned (.bool (complB E t)) ∧ Below w.heap.size w w' := by
  obtain ⟨na, nc, sa, sc, f0, rfl, -⟩ := ht.inv
  have HE := Lib.hid hE
  have HT := Lib.hid ht
  obtain ⟨R, hR⟩ : ∃ R, complB E t = R := ⟨_, rfl⟩
  rw [hR]
  obtain ⟨r1, hr1⟩ : ∃ r, (localsT t).all (hadB E) = r := ⟨_, rfl⟩
  obtain ⟨r2, hr2⟩ : ∃ r, (mentM E.m t).any (fun s => !((nextD E.m.decls s).all (hadB E))) = r := ⟨_, rfl⟩
  have hr : (r1 && !r2) = R := by
    rw [← hR, complB, hr1, ← hr2, mentM, hmay, hmt]
    show (r1 && !((sortN (mentF E.m.decls t)).any _)) = _
    rw [sort_any]
    congr 1
    induction mentF E.m.decls t with
    | nil => rfl
    | cons x l ih => rw [List.any_cons, List.all_cons, ← ih]; cases (nextD E.m.decls x).all (hadB E) <;> simp
  have HR := Lib.hid hr
  have HR1 := Lib.hid hr1
  have HR2 := Lib.hid hr2
  have hB := hE.base
  have hMT : manyT t ≤ 1000000 := by
    rw [may_is, mayR, Bool.and_eq_true, Bool.and_eq_true, decide_eq_true_eq, decide_eq_true_eq] at hmt
    omega
  have HMT := Lib.hid hMT
  have HMAY := Lib.hid hmay
  have hlX := hE.blk.lt
  clear hE hR hr hr1 hr2 ht hmay hmt hMT
  simp only [tyCells] at HT ⊢
  go_enter Tryz.func51, Tryz.ntmps51
  go_upto_region 1 with fail
  obtain ⟨W, hWq, d0, d1, hz, hb⟩ := twoEX w #[.pointer (some ⟨X, 0, none⟩)] #[.int .i64 t.kind, .string t.pkg, .int .i64 t.major, .string t.mod, .string t.name, .slice na t.names.length nc, .slice sa t.subs.length sc] 94 53
  rewrite [← hWq]; clear hWq
  have HB := Lib.hid hb
  have D0 := Lib.hid d0
  have D1 := Lib.hid d1
  have HX0 := Lib.hid (HE.out.under hb)
  clear hb d0 d1
  obtain ⟨k0, k1, k2, k3, k4, k5, k6⟩ := cellsT7 D1.out
  have kl := D1.out.lt
  have j0 := cellsT1 D0.out
  have jl := D0.out.lt
  have HEA := Lib.hid (each_c 94 (.pointer (some ⟨X, 0, none⟩)) (hadB E) B (by intro a w; rfl) t _ W (HT.out.under (HB.out.mono hB)) (by omega) HMT.out (fun w' hb' l _ cs' hl => xHad_c B X E ia ic da dc ea ec L g l cs' w' (HX0.out.under hb') hl))
  rw [HR1.out] at HEA
  cases r1
  · have hr : false = R := HR.out
    subst hr
    go_wp2_with (go_at_call 49; refine HEA.out.mono ?_; rintro e w1 ⟨rfl, hb1⟩; have B1 := Lib.hid (HB.out.trans (hb1.mono (by omega))); clear hb1)
    go_ret
    exact ⟨rfl, B1.out⟩
  · go_upto_region 3 with (go_at_call 49; refine HEA.out.mono ?_; rintro e W1 ⟨rfl, hb1⟩; have B1 := Lib.hid hb1; clear hb1)
    have hBW1 : W.heap.size ≤ W1.heap.size := B1.out.size
    have HX1 := Lib.hid (HX0.out.under B1.out)
    have q0 := D0.out.under B1.out D0.out.lt
    have q1 := D1.out.under B1.out D1.out.lt
    have Q0 := Lib.hid q0
    clear k0 k1 k2 k3 k4 k5 k6 kl j0 jl
    obtain ⟨k0, k1, k2, k3, k4, k5, k6⟩ := cellsT7 q1
    have kl := q1.lt
    have j0 := cellsT1 q0
    have jl := q0.lt
    obtain ⟨x0, x1, x2, -⟩ := cellsT8 HX1.out.blk
    have lx := HX1.out.blk.lt
    have HMN := Lib.hid (fun w' (hb : Below W1.heap.size W1 w') => mentM_c E.m ia ic da dc B t _ w' (HX1.out.mdl.under (hb.mono (show B ≤ W1.heap.size by omega))) (HT.out.under (((HB.out.trans (B1.out.mono (by omega))).mono hB).trans (hb.mono (show B ≤ W1.heap.size by omega)))) (by have := hb.size; omega))
    simp only [mdlCells] at HMN
    have HCON := Lib.hid (fun w' (hb : Below W1.heap.size W1 w') A c (hst : StrsAt w' w'.heap.size A (mentM E.m t)) => conStr_c 97 (.pointer (some ⟨w.heap.size, 0, none⟩)) (fun s => !((nextD E.m.decls s).all (hadB E))) A c w'.heap.size (mentM E.m t) w' hst (Nat.le_refl _) (by
        have h1 : (mentM E.m t).length ≤ E.m.decls.length := by
          rw [mentM]
          split
          · rw [sortN_len]; exact ment_len E.m.decls t
          · exact Nat.zero_le _
        have := HE.out.nd
        omega) (by intro a w; rfl) (fun w'' hb'' x hx => compl1_c B X E ia ic da dc ea ec L g x w.heap.size w'' ((HX1.out.under hb).under hb'') ((Q0.out.under hb Q0.out.lt).under hb'' (Nat.lt_of_lt_of_le Q0.out.lt hb.size)) HMAY.out))
    simp only [HR2.out] at HCON
    clear q0 q1
    refine wp_region_until [(5, fun w' => w'.cell? ⟨w.heap.size, 0, none⟩ = some (.pointer (some ⟨X, 0, none⟩)) ∧ w'.cell? ⟨X, 0, none⟩ = some (.string E.m.name) ∧ w'.cell? ⟨X, 1, none⟩ = some (.slice ia E.m.imps.length ic) ∧ w'.cell? ⟨X, 2, none⟩ = some (.slice da E.m.decls.length dc) ∧ w'.cell? ⟨w.heap.size + 1, 0, none⟩ = some (.int .i64 t.kind) ∧ w'.cell? ⟨w.heap.size + 1, 1, none⟩ = some (.string t.pkg) ∧ w'.cell? ⟨w.heap.size + 1, 2, none⟩ = some (.int .i64 t.major) ∧ w'.cell? ⟨w.heap.size + 1, 3, none⟩ = some (.string t.mod) ∧ w'.cell? ⟨w.heap.size + 1, 4, none⟩ = some (.string t.name) ∧ w'.cell? ⟨w.heap.size + 1, 5, none⟩ = some (.slice na t.names.length nc) ∧ w'.cell? ⟨w.heap.size + 1, 6, none⟩ = some (.slice sa t.subs.length sc))] (by kernel_rfl) (Until.cons (fun _ => ⟨j0, x0, x1, x2, k0, k1, k2, k3, k4, k5, k6⟩) Until.nil) (fun hU => ?_)
    refine AnyU.loadc (i := 0) (d := 5) [1, 2, 3, 5] (Si := fun w' => w'.cell? ⟨w.heap.size, 0, none⟩ = some (.pointer (some ⟨X, 0, none⟩)) ∧ w'.cell? ⟨X, 0, none⟩ = some (.string E.m.name) ∧ w'.cell? ⟨X, 1, none⟩ = some (.slice ia E.m.imps.length ic) ∧ w'.cell? ⟨X, 2, none⟩ = some (.slice da E.m.decls.length dc) ∧ w'.cell? ⟨w.heap.size + 1, 0, none⟩ = some (.int .i64 t.kind) ∧ w'.cell? ⟨w.heap.size + 1, 1, none⟩ = some (.string t.pkg) ∧ w'.cell? ⟨w.heap.size + 1, 2, none⟩ = some (.int .i64 t.major) ∧ w'.cell? ⟨w.heap.size + 1, 3, none⟩ = some (.string t.mod) ∧ w'.cell? ⟨w.heap.size + 1, 4, none⟩ = some (.string t.name) ∧ w'.cell? ⟨w.heap.size + 1, 5, none⟩ = some (.slice na t.names.length nc) ∧ w'.cell? ⟨w.heap.size + 1, 6, none⟩ = some (.slice sa t.subs.length sc)) (v := ?_) rfl (by kernel_rfl) (by kernel_rfl) (by kernel_rfl) (fun _ _ _ h => h) (by kernel_rfl) (by assumption) (by kernel_rfl) rfl (by simp) (by rfl) ?_ (fun hV => ?_)
    rotate_left 1
    · (intro wq hq; obtain ⟨u, -⟩ := hq; go_simp; try with_reducible rfl)
    clear hU; have hU := hV; clear hV
    try simp only [Act.put, aput]
    refine AnyU.take (i := 1) (v := ?_) rfl (by kernel_rfl) (by kernel_rfl) (by kernel_rfl) (fun _ _ _ h => h) (by kernel_rfl) (by assumption) (by rfl) ?_ (fun hV => ?_)
    rotate_left 1
    · (intro wq; go_simp; try with_reducible rfl)
    clear hU; have hU := hV; clear hV
    try simp only [Act.put, aput]
    refine AnyU.take (i := 2) (v := ?_) rfl (by kernel_rfl) (by kernel_rfl) (by kernel_rfl) (fun _ _ _ h => h) (by kernel_rfl) (by assumption) (by rfl) ?_ (fun hV => ?_)
    rotate_left 1
    · (intro wq; go_simp; try with_reducible rfl)
    clear hU; have hU := hV; clear hV
    try simp only [Act.put, aput]
    refine AnyU.loadc (i := 3) (d := 5) [5] (Si := fun w' => w'.cell? ⟨w.heap.size, 0, none⟩ = some (.pointer (some ⟨X, 0, none⟩)) ∧ w'.cell? ⟨X, 0, none⟩ = some (.string E.m.name) ∧ w'.cell? ⟨X, 1, none⟩ = some (.slice ia E.m.imps.length ic) ∧ w'.cell? ⟨X, 2, none⟩ = some (.slice da E.m.decls.length dc) ∧ w'.cell? ⟨w.heap.size + 1, 0, none⟩ = some (.int .i64 t.kind) ∧ w'.cell? ⟨w.heap.size + 1, 1, none⟩ = some (.string t.pkg) ∧ w'.cell? ⟨w.heap.size + 1, 2, none⟩ = some (.int .i64 t.major) ∧ w'.cell? ⟨w.heap.size + 1, 3, none⟩ = some (.string t.mod) ∧ w'.cell? ⟨w.heap.size + 1, 4, none⟩ = some (.string t.name) ∧ w'.cell? ⟨w.heap.size + 1, 5, none⟩ = some (.slice na t.names.length nc) ∧ w'.cell? ⟨w.heap.size + 1, 6, none⟩ = some (.slice sa t.subs.length sc)) (v := ?_) rfl (by kernel_rfl) (by kernel_rfl) (by kernel_rfl) (fun _ _ _ h => h) (by kernel_rfl) (by assumption) (by kernel_rfl) rfl (by simp) (by rfl) ?_ (fun hV => ?_)
    rotate_left 1
    · (intro wq hq; obtain ⟨-, u0, u1, u2, -⟩ := hq; go_simp; try with_reducible rfl)
    clear hU; have hU := hV; clear hV
    try simp only [Act.put, aput]
    refine AnyU.loadc (i := 4) (d := 5) [5] (Si := fun w' => w'.cell? ⟨w.heap.size, 0, none⟩ = some (.pointer (some ⟨X, 0, none⟩)) ∧ w'.cell? ⟨X, 0, none⟩ = some (.string E.m.name) ∧ w'.cell? ⟨X, 1, none⟩ = some (.slice ia E.m.imps.length ic) ∧ w'.cell? ⟨X, 2, none⟩ = some (.slice da E.m.decls.length dc) ∧ w'.cell? ⟨w.heap.size + 1, 0, none⟩ = some (.int .i64 t.kind) ∧ w'.cell? ⟨w.heap.size + 1, 1, none⟩ = some (.string t.pkg) ∧ w'.cell? ⟨w.heap.size + 1, 2, none⟩ = some (.int .i64 t.major) ∧ w'.cell? ⟨w.heap.size + 1, 3, none⟩ = some (.string t.mod) ∧ w'.cell? ⟨w.heap.size + 1, 4, none⟩ = some (.string t.name) ∧ w'.cell? ⟨w.heap.size + 1, 5, none⟩ = some (.slice na t.names.length nc) ∧ w'.cell? ⟨w.heap.size + 1, 6, none⟩ = some (.slice sa t.subs.length sc)) (v := ?_) rfl (by kernel_rfl) (by kernel_rfl) (by kernel_rfl) (fun _ _ _ h => h) (by kernel_rfl) (by assumption) (by kernel_rfl) rfl (by simp) (by rfl) ?_ (fun hV => ?_)
    rotate_left 1
    · (intro wq hq; obtain ⟨-, -, -, -, u0, u1, u2, u3, u4, u5, u6⟩ := hq; go_simp; try with_reducible rfl)
    clear hU; have hU := hV; clear hV
    try simp only [Act.put, aput]
    refine AnyU.take (i := 6) (v := ?_) rfl (by kernel_rfl) (by kernel_rfl) (by kernel_rfl) (fun _ _ _ h => h) (by kernel_rfl) (by assumption) (by rfl) ?_ (fun hV => ?_)
    rotate_left 1
    · (intro wq; go_simp; try with_reducible rfl)
    clear hU; have hU := hV; clear hV
    try simp only [Act.put, aput]
    refine AnyU.ready1 (i := 5) (by kernel_rfl) (AnyU.one rfl fun K hK => ?_)
    go_simp
    go_at_call 96
    refine (HMN.out W1.drew (Below.refl _ _).drew).mono ?_
    rintro e w2 ⟨A, c, rfl, hst, hcap, hb⟩
    have HB2 := Lib.hid (show Below W1.heap.size W1 w2 from (Below.refl _ _).drew.trans hb)
    have HST := Lib.hid hst
    clear hb hst
    refine hK.out _ _ (Until.offT (by kernel_rfl)) (fun hV => ?_)
    clear hK K hU
    have hU := hV
    clear hV
    try simp only [Act.put, aput]
    have HCO := Lib.hid (HCON.out w2 HB2.out A c HST.out)
    refine AnyU.ready1 (i := 7) (by kernel_rfl) (AnyU.one rfl fun K hK => ?_)
    go_simp
    go_at_call 95
    refine HCO.out.mono ?_
    rintro e w3 ⟨rfl, hb⟩
    have HB3 := Lib.hid hb
    clear hb
    refine hK.out _ _ (Until.offT (by kernel_rfl)) (fun hV => ?_)
    clear hK K hU
    have hU := hV
    clear hV
    try simp only [Act.put, aput]
    refine AnyU.take (i := 8) (v := ?_) rfl (by kernel_rfl) (by kernel_rfl) (by kernel_rfl) (fun _ _ _ h => h) (by kernel_rfl) (by assumption) (by rfl) ?_ (fun hV => ?_)
    rotate_left 1
    · (intro wq; go_simp; try with_reducible rfl)
    clear hU; have hU := hV; clear hV
    try simp only [Act.put, aput]
    refine AnyU.take (i := 9) (v := ?_) rfl (by kernel_rfl) (by kernel_rfl) (by kernel_rfl) (fun _ _ _ h => h) (by kernel_rfl) (by assumption) (by rfl) ?_ (fun hV => ?_)
    rotate_left 1
    · (intro wq; go_simp; try with_reducible rfl)
    clear hU; have hU := hV; clear hV
    try simp only [Act.put, aput]
    refine AnyU.done (by kernel_rfl) ?_
    go_wp2_with fail
    go_ret
    have hr : (!r2) = R := HR.out
    exact ⟨ret_b hr, (HB.out.trans (B1.out.mono (by omega))).trans ((HB2.out.trans (HB3.out.mono HB2.out.size)).mono (by omega))⟩
end Go.Proofs.YtjeldfipipkfiaaGreat
