/- The contract of merlonlaw10.up: the document's example. -/
import Derived.Test.YtjeldfipipkfiaaGreatGBldE
import Derived.Test.YtjeldfipipkfiaaGreatGIf
import Derived.Test.YtjeldfipipkfiaaGreatGBldP
import Derived.Test.YtjeldfipipkfiaaGreatGModS
import Derived.Test.YtjeldfipipkfiaaGreatFewC
namespace Go.Proofs.YtjeldfipipkfiaaGreat
open Go.RowKit
set_option linter.unusedSimpArgs false
set_option linter.unusedVariables false
def nUT : ByteArray := { data := #[84] }
def nUm : ByteArray := { data := #[109] }
def nUp : ByteArray := { data := #[112] }
def nUf : ByteArray := { data := #[102] }
def dUT : Dcl := ⟨1, nUT, zT⟩
def dUF : Dcl := ⟨4, nUf, locT nUT⟩
def mU : Mdl := ⟨nUm, [], [dUT, dUF]⟩
def EU : Env := ⟨mU, nUp, 1, []⟩
def oU : Ty := openT EU nUT
def xU : If := ⟨nUp, 1, nUm, [⟨nUT, oU⟩], [⟨nUf, oU⟩]⟩
theorem eu_check : checkF mU = none := by decide +kernel
theorem eu_may : mayT (locT nUT) = true := by decide +kernel
theorem eu_small : smallB nUp = true := by decide +kernel
theorem eu_known : knownB EU (locT nUT) = true := by decide +kernel
theorem eu_compl : complB EU (locT nUT) = true := by decide +kernel
theorem eu_empty : (({ data := #[] } : ByteArray).toList.isEmpty) = true := by decide +kernel
theorem eu_exp : Exp EU (locT nUT) oU :=
  .opn (t := locT nUT) (d := dUT) rfl eu_empty (by rw [declOf]; show List.find? (isT nUT) [dUT, dUF] = _; rw [List.find?_cons, show isT nUT dUT = true by decide +kernel]) (by show (1 : Int) ≠ 3; decide)
theorem eu_is : ExpIs EU (locT nUT) 0 oU := by
  refine .inr (.inr (.inr ⟨?_, eu_known, eu_compl, oU, eu_exp, .inl ⟨⟨by decide +kernel, by decide +kernel⟩, rfl, rfl⟩⟩))
  rw [argB, show checkF EU.m = none from eu_check, eu_may, show smallB EU.pkg = true from eu_small]
  decide
theorem eu_ok : okE EU = true := by decide +kernel
theorem eu_bld {C : Ty → Int} {X : Ty → Ty} (h : Tells EU C X) : bldF EU C X = (0, none, xU) := by
  obtain ⟨h1, h2⟩ := (h (locT nUT)).uniq eu_is
  have hf : firstX C EU.m.decls = none := firstX_none.2 fun d hd h2 => by
    rcases List.mem_cons.1 hd with rfl | hd
    · exact h1
    · obtain rfl := List.mem_singleton.1 hd
      exact h1
  have ht : sortNm (tysF X EU.m.decls) = [⟨nUT, X (locT nUT)⟩] := rfl
  have hv : sortNm (vasF X EU.m.decls) = [⟨nUf, X (locT nUT)⟩] := rfl
  rw [bldF, show checkF EU.m = none from eu_check]
  simp only [if_pos eu_ok, hf, ht, hv, h2]
  rfl
theorem xu_may : imayB xU = true := by decide +kernel
theorem zu_may : imayB zIfq = false := by decide +kernel
theorem mdlU {w : World} {B gd : Nat} {TD' : TypeId} (hd : Blk w gd (dclCells dUT none 0 none 0 ++ dclCells dUF none 0 none 0) TD') (hgd : gd < B) : MdlC w B mU none 0 (some ⟨gd, 0, none⟩) 2 := by
  refine ⟨by decide +kernel, .nil _ _ _, ⟨fun i => if i = 0 then dclCells dUT none 0 none 0 else dclCells dUF none 0 none 0, .inr ⟨gd, 0, rfl, hgd, fun i hi j hj => ?_⟩, fun i hi => ?_⟩, by decide, by decide, Nat.le_refl _, Nat.le_refl _⟩
  · have hi2 : i = 0 ∨ i = 1 := by have : i < 2 := hi; omega
    rcases hi2 with rfl | rfl
    · have hj : j < 9 := hj
      rw [Nat.zero_mul, Nat.zero_add, hd.cell j, Array.getElem?_append_left (by simpa [dclCells] using hj)]
      rfl
    · have hj : j < 9 := hj
      rw [hd.cell, Array.getElem?_append_right (by simp [dclCells])]
      have : 0 + 1 * 9 + j - (dclCells dUT none 0 none 0).size = j := by simp [dclCells]
      rw [this]
      rfl
  · have hi2 : i = 0 ∨ i = 1 := by have : i < 2 := hi; omega
    have hz : TyC w B zT (tyCells zT none 0 none 0) := .mk zT none 0 none 0 (fun _ => #[]) { kind := by decide, major := by decide, pkg := by decide +kernel, mod := by decide +kernel, name := by decide +kernel, names := by decide, each := (fun s hs => by cases hs), subs := by decide } (.inl rfl) (.inl rfl) (Nat.le_refl _) (Nat.le_refl _) (fun i hi => absurd hi (by simp [zT, Ty.subs]))
    have hl : TyC w B (locT nUT) (tyCells (locT nUT) none 0 none 0) := .mk (locT nUT) none 0 none 0 (fun _ => #[]) { kind := by decide, major := by decide, pkg := by decide +kernel, mod := by decide +kernel, name := by decide +kernel, names := by decide, each := (fun s hs => by cases hs), subs := by decide } (.inl rfl) (.inl rfl) (Nat.le_refl _) (Nat.le_refl _) (fun i hi => absurd hi (by simp [locT, Ty.subs]))
    rcases hi2 with rfl | rfl
    · exact ⟨⟨by show (-9223372036854775808 : Int) ≤ 1 ∧ (1 : Int) ≤ 9223372036854775807; decide, by show nUT.size ≤ maxLen; decide +kernel⟩, none, 0, none, 0, rfl, hz⟩
    · exact ⟨⟨by show (-9223372036854775808 : Int) ≤ 4 ∧ (4 : Int) ≤ 9223372036854775807; decide, by show nUf.size ≤ maxLen; decide +kernel⟩, none, 0, none, 0, rfl, hl⟩
set_option maxRecDepth 100000 in
set_option maxHeartbeats 8000000 in
theorem up10_c (w : World) : Calls Tryz.prog 6 #[] w fun e w' => e = .returned (.bool true) ∧ Below w.heap.size w w' := by
  go_enter Tryz.func6, Tryz.ntmps6
  go_upto_region 2 with fail
  obtain ⟨W, hWq, b1, b2, hz, hb⟩ := twoIX w #[.int .i64 1, .string { data := #[84] }, .int .i64 0, .string { data := #[] }, .int .i64 0, .string { data := #[] }, .string { data := #[] }, .slice none 0 0, .slice none 0 0, .int .i64 4, .string { data := #[102] }, .int .i64 8, .string { data := #[] }, .int .i64 0, .string { data := #[] }, .string { data := #[84] }, .slice none 0 0, .slice none 0 0] #[.string { data := #[109] }, .slice none 0 0, .slice (some ⟨w.heap.size, 0, none⟩) 2 2] 55 25
  rewrite [← hWq]; clear hWq
  have hM : MdlC W W.heap.size mU none 0 (some ⟨w.heap.size, 0, none⟩) 2 := mdlU b1 (by omega)
  have hE : EnvC W W.heap.size EU none 0 (some ⟨w.heap.size, 0, none⟩) 2 none 0 := ⟨hM, .nil _ _ _, by decide, by decide, by decide, (fun x hx => by cases hx), by decide +kernel, Nat.le_refl _, by decide⟩
  obtain ⟨C, X, hT⟩ := tells_all EU
  have hc : Calls Tryz.prog 10 #[.agg #[.string { data := #[109] }, .slice none 0 0, .slice (some ⟨w.heap.size, 0, none⟩) 2 2], .string { data := #[112] }, .int .i64 1, .slice none 0 0] W fun e w' => ∃ ta tc va vc, e = .returned (.tuple #[.agg #[.string { data := #[112] }, .int .i64 1, .string { data := #[109] }, .slice ta 1 tc, .slice va 1 vc], .nilIface]) ∧ NmsAt w' w'.heap.size ta xU.types ∧ NmsAt w' w'.heap.size va xU.vals ∧ Below W.heap.size W w' :=
    (bld_c EU C X none 0 (some ⟨w.heap.size, 0, none⟩) 2 none 0 W.heap.size W hE (Nat.le_refl _) hT).mono fun e w' h => by
      rw [eu_bld hT] at h
      obtain ⟨cs, v, h1, ⟨-, ta, tc, va, vc, rfl, h2, h3, -, -⟩, h4, h5⟩ := h
      have h4 : v = .nilIface := h4
      subst h4
      exact ⟨ta, tc, va, vc, h1, h2, h3, h5⟩
  have HC := Lib.hid hc
  have HB := Lib.hid hb
  obtain ⟨x0, x1, x2⟩ := cellsT3 b2
  have l1 := b2.lt
  clear b1 b2 hb hM hE hc hT
  go_upto_region 3 with (go_at_call 10; refine HC.out.mono ?_; rintro e w1 ⟨ta, tc, va, vc, rfl, ht, hv, hb1⟩; have HT := Lib.hid ht; have HV := Lib.hid hv; have B1 := Lib.hid (HB.out.trans (hb1.mono (by omega))); clear ht hv hb1)
  clear x0 x1 x2 l1
  obtain ⟨W5, hWq, b5, hb5, hz5⟩ := laidNX w1 #[.string { data := #[112] }, .int .i64 1, .string { data := #[109] }, .slice ta 1 tc, .slice va 1 vc] 33
  rewrite [← hWq]; clear hWq
  have B5 := Lib.hid (B1.out.trans (hb5.mono B1.out.size))
  have HT5 := Lib.hid (HT.out.under hb5)
  have HV5 := Lib.hid (HV.out.under hb5)
  have D5 := Lib.hid b5
  have hfU : IfFits xU := ⟨by decide +kernel, by decide +kernel, by decide, by decide, by decide⟩
  have hm1 := fun W' (hb : Below W5.heap.size W5 W') => ifMay_c xU ta tc va vc w1.heap.size W' hfU (HT5.out.under (hb.mono hb5.size)) (HV5.out.under (hb.mono hb5.size)) (Nat.le_trans hb5.size hb.size)
  have hm2 := fun W' => ifMay_c zIfq none 0 none 0 0 W' ⟨by decide +kernel, by decide +kernel, by decide, by decide, by decide⟩ (.nil _ _ _) (.nil _ _ _) (Nat.zero_le _)
  rw [xu_may] at hm1
  rw [zu_may] at hm2
  have HM1 := Lib.hid hm1
  have HM2 := Lib.hid hm2
  obtain ⟨-, b, o, na, nc, sa, sc, hA, hbl, -, -, c1, -⟩ := HV5.out.elem (k := 0) (show 0 < xU.vals.length by decide) rfl
  obtain rfl := hA
  have c1 : W5.cell? ⟨b, o + 1, none⟩ = some (.int .i64 9) := by rw [Nat.zero_mul, Nat.add_zero] at c1; exact c1
  have lb : b < W5.heap.size := by omega
  obtain ⟨e0, e1, e2, e3, e4⟩ := cellsT5 D5.out
  have el := D5.out.lt
  clear b5 hb5 hm1 hm2 hz5
  go_wp2_with (first
    | (go_at_call 12; have hno := B6; refine (HM2.out _).mono ?_; rintro e w7 ⟨rfl, hb⟩; have B7 := Lib.hid (B6.out.trans (hb.mono B6.out.size)); clear hb)
    | (go_at_call 12; refine (HM1.out _ (Below.refl _ _)).mono ?_; rintro e w6 ⟨rfl, hb⟩; have B6 := Lib.hid (B5.out.trans (hb.mono B5.out.size)); clear hb))
  go_ret
  exact ⟨rfl, B7.out⟩
end Go.Proofs.YtjeldfipipkfiaaGreat
namespace Go.Proofs.YtjeldfipipkfiaaGreat
open Go.RowKit
set_option linter.unusedSimpArgs false
set_option linter.unusedVariables false
theorem namedB_of {p : ByteArray → Bool} {l : List Nm} (hp : ∀ n ∈ l, p n.name = true ∧ PlainB n.ty = true) (hr : RiseN l) : namedB p l = true := by
  refine named_all fun i hi => ?_
  have h := hp l[i] (List.getElem_mem hi)
  rw [nmOk, dif_pos hi, h.1, h.2]
  by_cases h0 : i = 0
  · simp [h0]
  · have := (List.pairwise_iff_getElem.1 hr) (i - 1) i (by omega) hi (by omega)
    simp [this]
theorem bld_may {E : Env} {C : Ty → Int} {X : Ty → Ty} (h : Tells E C X) (h0 : (bldF E C X).1 = 0) : imayB (bldF E C X).2.2 = true := by
  cases hc : checkF E.m with
  | some p =>
    rw [bldF, hc] at h0
    exact absurd h0 (by
      have h1 : (1 : Int) ≠ 0 := by decide
      rw [checkF] at hc
      split at hc
      · rw [Option.map_eq_some_iff] at hc
        obtain ⟨⟨c, i⟩, h1, h2⟩ := hc
        rw [← h2]
        intro h0
        have h0 : c = 0 := h0
        subst h0
        rw [amissF] at h1
        split at h1
        · cases h1
        · obtain ⟨c, hc, hm⟩ := List.exists_of_findSome?_eq_some h1
          rw [Option.map_eq_some_iff] at hm
          obtain ⟨k, _, he⟩ := hm
          injection he with h1 h2
          subst h1
          simp [codes4] at hc
      · injection hc with hc
        rw [← hc]
        exact h1)
  | none =>
    rw [bldF, hc] at h0 ⊢
    cases ho : okE E
    · rw [ho] at h0
      simp at h0
    · rw [ho] at h0
      simp only [if_true] at h0 ⊢
      cases hf : firstX C E.m.decls with
      | some i =>
        rw [hf] at h0
        simp only at h0
        have hb := List.find?_some hf
        rw [badX] at hb
        rw [codeAt] at h0
        split at hb
        · rename_i d e; rw [e] at h0; have h0 : C (srcT d) = 0 := h0; rw [h0] at hb; simp at hb
        · cases hb
      | none =>
        simp only
        have hz := firstX_none.1 hf
        obtain ⟨m1, -, -, -, m5⟩ := mayM_iff.1 (check_none.1 hc).1
        have honce := (amiss_none.1 (check_none.1 hc).2).once
        simp only [okE, Bool.and_eq_true, decide_eq_true_eq] at ho
        obtain ⟨o1, o2, o3, -⟩ := ho
        have key : ∀ d ∈ E.m.decls, d.kind ≠ 2 → PlainB (X (srcT d)) = true := fun d hd h2 => by
          have := h (srcT d)
          rw [hz d hd h2] at this
          exact this.plain
        have ht : namedB greatB (sortNm (tysF X E.m.decls)) = true := by
          refine namedB_of (fun n hn => ?_) (sortNm_rise (tys_nodup X honce))
          rw [(sortNm_perm _).mem_iff, tysF, List.mem_map] at hn
          obtain ⟨d, hd, rfl⟩ := hn
          rw [List.mem_filter] at hd
          obtain ⟨hd, hk⟩ := hd
          simp only [isTyD, Bool.and_eq_true, bne_iff_ne, ne_eq] at hk
          refine ⟨?_, key d hd hk.1⟩
          have := m5 d hd
          show greatB d.name = true
          rw [dclOk] at this
          split at this
          · exact (Bool.and_eq_true _ _ ▸ this).1
          · split at this
            · exact (Bool.and_eq_true _ _ ▸ this).1
            · rw [if_neg hk.2] at this; cases this
        have hv : namedB smallB (sortNm (vasF X E.m.decls)) = true := by
          refine namedB_of (fun n hn => ?_) (sortNm_rise (vas_nodup X honce))
          rw [(sortNm_perm _).mem_iff, vasF, List.mem_map] at hn
          obtain ⟨d, hd, rfl⟩ := hn
          rw [List.mem_filter] at hd
          obtain ⟨hd, hk⟩ := hd
          have hk : d.kind = 4 := by simpa [isVaD] using hk
          refine ⟨?_, key d hd (by rw [hk]; decide)⟩
          have := m5 d hd
          show smallB d.name = true
          rw [dclOk, if_neg (by rw [hk]; decide), if_neg (by rw [hk]; decide), if_pos hk] at this
          exact (Bool.and_eq_true _ _ ▸ this).1
        rw [imayB]
        simp only [o1, m1, ht, hv, decide_eq_true o2, decide_eq_true o3]
        rfl
end Go.Proofs.YtjeldfipipkfiaaGreat
namespace Go.Proofs.YtjeldfipipkfiaaGreat
open Go.RowKit
set_option linter.unusedSimpArgs false
set_option linter.unusedVariables false
theorem fewI_len2 {l : List If} (h : FewI l = true) : l.length ≤ 200 ∧ ∀ x ∈ l, x.types.length ≤ 200 ∧ x.vals.length ≤ 200 := by
  rw [FewI, Bool.and_eq_true, decide_eq_true_eq, List.all_eq_true] at h
  refine ⟨h.1, fun x hx => ?_⟩
  have := h.2 x hx
  rw [fewX, Bool.and_eq_true, Bool.and_eq_true, decide_eq_true_eq, decide_eq_true_eq] at this
  exact ⟨this.1, this.2.1⟩
theorem fewM_len {m : Mdl} (h : fewM m = true) : m.imps.length ≤ 100 ∧ m.decls.length ≤ 100 := by
  simp only [fewM, Bool.and_eq_true, decide_eq_true_eq] at h
  exact ⟨h.2.1, h.2.2.1⟩
theorem env_of2 {w : World} {B : Nat} {m : Mdl} {pkg : ByteArray} {j : Int} {env : List If} {ia : Option Addr} {ic : Nat} {da : Option Addr} {dc : Nat} {ea : Option Addr} {ec : Nat} (hm : MdlC w B m ia ic da dc) (he : IfsAt w B ea env) (hf : fewM m = true) (hi : FewI env = true) (hp : pkg.size ≤ maxLen) (hc : env.length ≤ ec)
    (hj : -9223372036854775808 ≤ j ∧ j ≤ 9223372036854775807) : EnvC w B ⟨m, pkg, j, env⟩ ia ic da dc ea ec := by
  obtain ⟨h1, h2⟩ := fewM_len hf
  obtain ⟨h3, h4⟩ := fewI_len2 hi
  exact ⟨hm, he, by show m.decls.length ≤ _; omega, by show m.imps.length ≤ _; omega, by show env.length ≤ _; omega, fun x hx => by have := (h4 x hx).1; omega, hp, hc, hj⟩
theorem bldR_c (E : Env) (C : Ty → Int) (X : Ty → Ty) (ia : Option Addr) (ic : Nat) (da : Option Addr) (dc : Nat) (ea : Option Addr) (ec : Nat) (B : Nat) (w : World) (hE : EnvC w B E ia ic da dc ea ec) (hB : B ≤ w.heap.size) (hT : Tells E C X) {q : Int × Option Nat × If} (hq : bldF E C X = q) {x : If} (hx : q.2.2 = x) {r : Option (Int × Option Nat)} (hr : errB q = r) :
    Calls Tryz.prog 10 #[.agg (mdlCells E.m ia ic da dc), .string E.pkg, .int .i64 E.major, .slice ea E.env.length ec] w fun e w' => ∃ cs v, e = .returned (.tuple #[.agg cs, v]) ∧ IfC w' w'.heap.size x cs ∧ ErrAt w' v r ∧ Below w.heap.size w w' := by
  subst hq hx hr
  exact bld_c E C X ia ic da dc ea ec B w hE hB hT
end Go.Proofs.YtjeldfipipkfiaaGreat
