/- The contract of sub.below: a type's stand below another, by the depth; the premise: both types are allowed. -/
import Derived.Test.YtjeldfipipkfiaaGreatDoorSubCov
import Derived.Test.YtjeldfipipkfiaaGreatDoorRefMay
namespace Go.Proofs.YtjeldfipipkfiaaGreatDoor
open Go.RowKit
set_option linter.unusedSimpArgs false
set_option linter.unusedVariables false
theorem deepL_mem : ∀ {l : List Ty} {s : Ty}, s ∈ l → deepT s ≤ deepL l
  | [], _, h => by cases h
  | x :: l, s, h => by
    rw [deepL]
    rcases List.mem_cons.1 h with rfl | h
    · omega
    · have := deepL_mem h; omega
theorem deep_child {t s : Ty} (h : s ∈ t.subs) : deepT s < deepT t := by
  have := deepL_mem h
  rw [deepT_eq t]; omega
theorem allL_mem : ∀ {l : List Ty} {s : Ty}, s ∈ l → allL l = true → allT s = true
  | [], _, h, _ => by cases h
  | x :: l, s, h, ha => by
    rw [allL, Bool.and_eq_true] at ha
    rcases List.mem_cons.1 h with rfl | h
    · exact ha.1
    · exact allL_mem h ha.2
theorem may_child {t s : Ty} (h : mayT t = true) (hs : s ∈ t.subs) : mayT s = true := by
  rw [may_is, mayR, allT_eq] at h ⊢
  simp only [Bool.and_eq_true, decide_eq_true_eq] at h ⊢
  obtain ⟨⟨⟨h1, h2⟩, h3⟩, h4⟩ := h
  have h5 := allL_mem hs h2
  rw [allT_eq, Bool.and_eq_true] at h5
  have h6 := manyL_mem hs
  have h7 := deep_child hs
  rw [manyT_eq] at h3
  exact ⟨⟨h5, by omega⟩, by omega⟩
theorem may_shape {t : Ty} (h : mayT t = true) : shapeB t = true := by
  rw [may_is, mayR, allT_eq] at h
  simp only [Bool.and_eq_true] at h
  exact h.1.1.1
theorem may_small {t : Ty} (h : mayT t = true) : t.subs.length ≤ 20 := by
  have := may_shape h
  simp only [shapeB, Bool.and_eq_true, decide_eq_true_eq] at this
  omega
theorem may_kind {t : Ty} (h : mayT t = true) : kindB t = true := by
  have := may_shape h
  simp only [shapeB, Bool.and_eq_true, decide_eq_true_eq] at this
  exact this.2
theorem may_list {t : Ty} (h : mayT t = true) (hk : t.kind = 4) : t.subs.length = 1 := by
  have := may_kind h
  simp [kindB, hk] at this
  omega
theorem may_func {t : Ty} (h : mayT t = true) (hk : t.kind = 7) : 1 ≤ t.subs.length := by
  have := may_kind h
  simp [kindB, hk] at this
  omega
theorem may_rows {t : Ty} (h : mayT t = true) (hk : t.kind = 5 ∨ t.kind = 6) : RowsOk t := by
  have h1 := may_kind h
  have h2 := may_small h
  rcases hk with hk | hk
  · simp [kindB, hk, namesB] at h1
    exact ⟨h1.2.2, by omega, by omega⟩
  · simp [kindB, hk, namesB] at h1
    exact ⟨h1.2.2, by omega, by omega⟩
def argsB (r : Ty → Ty → Bool) (xs ys : List Ty) (n : Nat) : Bool := (List.range n).all fun i => r (ys.getD i zeroTy) (xs.getD i zeroTy)
def funcB (r : Ty → Ty → Bool) (xs ys : List Ty) : Bool :=
  decide (xs.length = ys.length) && (r (xs.getD (xs.length - 1) zeroTy) (ys.getD (xs.length - 1) zeroTy) && argsB r xs ys (xs.length - 1))
def subF : Nat → Ty → Ty → Bool
  | 0, _, _ => false
  | n + 1, a, b =>
    if a.kind = b.kind then
      if a.kind = 4 then subF n (a.subs.getD 0 zeroTy) (b.subs.getD 0 zeroTy)
      else if a.kind = 5 then coverL (subF n) a b.names b.subs
      else if a.kind = 6 then coverL (fun x y => subF n y x) b a.names a.subs
      else if a.kind = 7 then funcB (subF n) a.subs b.subs
      else alikeT a b
    else false
theorem getD_at {l : List Ty} {k : Nat} (h : k < l.length) : l.getD k zeroTy = l[k] := by
  rw [List.getD_eq_getElem?_getD, List.getElem?_eq_getElem h]; rfl
theorem funcB_at {r : Ty → Ty → Bool} {xs ys : List Ty} {m : Nat} (h1 : xs.length = m + 1) (h2 : ys.length = m + 1) :
    funcB r xs ys = (r (xs[m]'(by omega)) (ys[m]'(by omega)) && argsB r xs ys m) := by
  have e : xs.length - 1 = m := by omega
  rw [funcB, e, decide_eq_true (h1.trans h2.symm), Bool.true_and, getD_at (by omega), getD_at (by omega)]
theorem enter_below (a : Array Value) (w : World) : (callFunc 210 a).run Tryz.prog w = .ok (.enter 210 a) w := by kernel_rfl
theorem enter_swap (a : Array Value) (w : World) : (callFunc 227 a).run Tryz.prog w = .ok (.enter 227 a) w := by kernel_rfl
theorem swap_c (x y : Ty) (cx cy : Array Value) (B : Nat) (w : World) (v : Bool) (hx : TyC w B x cx) (hy : TyC w B y cy) (hB : B ≤ w.heap.size)
    (hp : ∀ W : World, TyC W B x cx → TyC W B y cy → B ≤ W.heap.size → Calls Tryz.prog 210 #[.agg cy, .agg cx] W fun e w' => e = .returned (.bool v) ∧ Below W.heap.size W w') :
    Calls Tryz.prog 227 #[.agg cx, .agg cy] w fun e w' => e = .returned (.bool v) ∧ Below w.heap.size w w' := by
  obtain ⟨na, nc, sa, sc, f, rfl, -⟩ := hx.inv
  obtain ⟨na', nc', sa', sc', f', rfl, -⟩ := hy.inv
  have HX := Lib.hid hx
  have HY := Lib.hid hy
  have HP := Lib.hid hp
  clear hx hy hp
  go_enter Tryz.func227, Tryz.ntmps227
  simp only [tyCells]
  go_wp2_with fail
  refine (HP.out _ ((HX.out.alloc hB _).alloc (by simp; omega) _) ((HY.out.alloc hB _).alloc (by simp; omega) _) (by simp; omega)).mono ?_
  rintro e w1 ⟨rfl, hb1⟩
  go_wp2
  go_ret
  exact ⟨ret_b rfl, acc2 (Below.refl _ _) (Nat.le_refl _) hb1⟩
set_option maxRecDepth 100000 in
set_option maxHeartbeats 4000000 in
theorem below_c : ∀ (n : Nat) (a b : Ty) (cs cs' : Array Value) (B : Nat) (w : World), TyC w B a cs → TyC w B b cs' → B ≤ w.heap.size →
    mayT a = true → mayT b = true → deepT a ≤ n → deepT b ≤ n →
    Calls Tryz.prog 210 #[.agg cs, .agg cs'] w fun e w' => e = .returned (.bool (subF n a b)) ∧ Below w.heap.size w w'
  | 0, a, b, _, _, _, _, _, _, _, _, _, hd, _ => by have := deep_bound a; omega
  | n + 1, a, b, cs, cs', B, w, ha, hb, hB, ma, mb, da, db => by
    have HI := Lib.hid (below_c n)
    obtain ⟨na, nc, sa, sc, f, rfl, -, -, hs, -, -, hsub⟩ := ha.inv
    obtain ⟨na', nc', sa', sc', f', rfl, -, -, hs', -, -, hsub'⟩ := hb.inv
    have HA := Lib.hid ha
    have HB := Lib.hid hb
    have HS := Lib.hid hs
    have HS' := Lib.hid hs'
    have HU := Lib.hid hsub
    have HU' := Lib.hid hsub'
    have MA := Lib.hid ma
    have MB := Lib.hid mb
    have hl1 := may_small ma
    have hl2 := may_small mb
    clear ha hb hs hs' hsub hsub' ma mb
    go_enter Tryz.func210, Tryz.ntmps210
    have hacc : Below w.heap.size w ((w.alloc (.cells (tyCells a na nc sa sc) 29)).alloc (.cells (tyCells b na' nc' sa' sc') 29)) := ((Below.refl _ _).alloc (Nat.le_refl _) _).alloc (by simp) _
    have hbx := (boxes w (tyCells a na nc sa sc) (tyCells b na' nc' sa' sc') 29).1
    have hby := (boxes w (tyCells a na nc sa sc) (tyCells b na' nc' sa' sc') 29).2
    simp only [tyCells] at hacc hbx hby ⊢
    by_cases hk : a.kind = b.kind
    · have HK := Lib.hid hk
      rw [← hk] at hacc hbx hby ⊢
      clear hk
      by_cases h4 : a.kind = 4
      · have H4 := Lib.hid h4
        have hq := Lib.hid (show subF (n + 1) a b = subF n (a.subs.getD 0 zeroTy) (b.subs.getD 0 zeroTy) by rw [subF, if_pos HK.out, if_pos h4])
        have hz1 : a.subs.length = 1 := may_list MA.out h4
        have hz2 : b.subs.length = 1 := may_list MB.out (HK.out ▸ h4)
        have HZ1 := Lib.hid hz1
        have HZ2 := Lib.hid hz2
        have hc1 := HS.out
        have hc2 := HS'.out
        rw [hz1] at hc1
        rw [hz2] at hc2
        rw [h4, hz1, hz2] at hacc hbx hby ⊢
        clear h4 hl1 hl2
        have hT : TyC w B (a.subs[0]'(by rw [HZ1.out]; decide)) (f 0) := HU.out 0 (by rw [HZ1.out]; decide)
        have hT' : TyC w B (b.subs[0]'(by rw [HZ2.out]; decide)) (f' 0) := HU'.out 0 (by rw [HZ2.out]; decide)
        clear hz1 hz2
        go_wp2_with fail
        generalize ((w.alloc (.cells #[.int .i64 4, .string a.pkg, .int .i64 a.major, .string a.mod, .string a.name, .slice na a.names.length nc, .slice sa 1 sc] 29)).alloc (.cells #[.int .i64 4, .string b.pkg, .int .i64 b.major, .string b.mod, .string b.name, .slice na' b.names.length nc', .slice sa' 1 sc'] 29)) = W at hacc hbx hby ⊢
        have hsz := hacc.size
        have hT1 := hT.under (hacc.mono hB)
        have hT2 := hT'.under (hacc.mono hB)
        obtain ⟨b1, o1, na1, nc1, sa1, sc1, rfl, hbb1, hfk1, c0, c1, c2, c3, c4, c5, c6⟩ := TyC.elem (hc1.keep fun p hp => hacc.cell (p := p) (by omega)) (Nat.zero_lt_one) hT1
        obtain ⟨b2, o2, na2, nc2, sa2, sc2, rfl, hbb2, hfk2, d0, d1, d2, d3, d4, d5, d6⟩ := TyC.elem (hc2.keep fun p hp => hacc.cell (p := p) (by omega)) (Nat.zero_lt_one) hT2
        rw [hfk1] at hT1
        rw [hfk2] at hT2
        have HT1 := Lib.hid hT1
        have HT2 := Lib.hid hT2
        simp only [Nat.zero_mul, Nat.add_zero] at c0 c1 c2 c3 c4 c5 c6 d0 d1 d2 d3 d4 d5 d6
        have hx1 := hbx.1
        have hx2 := hbx.2
        have hy1 := hby.1
        have hy2 := hby.2
        clear hfk1 hfk2 hT1 hT2 hT hT' hc1 hc2 hbx hby
        go_still_tail 8, (by kernel_rfl)
        change wpList _ _ _ _ _ W.drew
        go_wp2_with fail
        refine (HI.out (a.subs[0]'(by rw [HZ1.out]; decide)) (b.subs[0]'(by rw [HZ2.out]; decide)) _ _ B W.drew (HT1.out.keep fun _ _ => rfl) (HT2.out.keep fun _ _ => rfl) (Nat.le_trans hB hsz)
          (may_child MA.out (List.getElem_mem _)) (may_child MB.out (List.getElem_mem _)) (by have := deep_child (t := a) (List.getElem_mem (show 0 < a.subs.length by have := HZ1.out; omega)); omega) (by have := deep_child (t := b) (List.getElem_mem (show 0 < b.subs.length by have := HZ2.out; omega)); omega)).mono ?_
        rintro e w1 ⟨rfl, hb1⟩
        go_wp2
        go_ret
        refine ⟨ret_b ?_, acc0 hacc.drew hsz hb1⟩
        rw [hq.out, getD_at, getD_at]
      · clear hl1 hl2
        by_cases h5 : a.kind = 5
        · have hq := Lib.hid (show subF (n + 1) a b = coverL (subF n) a b.names b.subs by rw [subF, if_pos HK.out, if_neg h4, if_pos h5])
          have H5 := Lib.hid h5
          rw [h5] at hacc hbx hby ⊢
          clear h4 h5 hbx hby
          go_wp2_with fail
          generalize ((w.alloc (.cells #[.int .i64 5, .string a.pkg, .int .i64 a.major, .string a.mod, .string a.name, .slice na a.names.length nc, .slice sa a.subs.length sc] 29)).alloc (.cells #[.int .i64 5, .string b.pkg, .int .i64 b.major, .string b.mod, .string b.name, .slice na' b.names.length nc', .slice sa' b.subs.length sc'] 29)) = W at hacc ⊢
          have hA := HA.out.under (hacc.mono hB)
          have hB' := HB.out.under (hacc.mono hB)
          simp only [tyCells] at hA hB'
          rw [H5.out] at hA
          rw [← HK.out, H5.out] at hB'
          refine (covers_c _ (subF n) a b _ _ B _ hA hB' (Nat.le_trans hB hacc.size) (may_rows MA.out (.inl H5.out)) (may_rows MB.out (.inl (HK.out ▸ H5.out))) enter_below
            (fun x y cx cy W hx hy tx ty hW => HI.out x y cx cy B W tx ty hW (may_child MA.out hx) (may_child MB.out hy) (by have := deep_child hx; omega) (by have := deep_child hy; omega))).mono ?_
          rintro e w1 ⟨rfl, hb1⟩
          go_wp2
          go_ret
          exact ⟨ret_b hq.out.symm, acc0 hacc hacc.size hb1⟩
        · by_cases h6 : a.kind = 6
          · have hq := Lib.hid (show subF (n + 1) a b = coverL (fun x y => subF n y x) b a.names a.subs by rw [subF, if_pos HK.out, if_neg h4, if_neg h5, if_pos h6])
            have H6 := Lib.hid h6
            rw [h6] at hacc hbx hby ⊢
            clear h4 h5 h6 hbx hby
            go_wp2_with fail
            generalize ((w.alloc (.cells #[.int .i64 6, .string a.pkg, .int .i64 a.major, .string a.mod, .string a.name, .slice na a.names.length nc, .slice sa a.subs.length sc] 29)).alloc (.cells #[.int .i64 6, .string b.pkg, .int .i64 b.major, .string b.mod, .string b.name, .slice na' b.names.length nc', .slice sa' b.subs.length sc'] 29)) = W at hacc ⊢
            have hA := HA.out.under (hacc.mono hB)
            have hB' := HB.out.under (hacc.mono hB)
            simp only [tyCells] at hA hB'
            rw [H6.out] at hA
            rw [← HK.out, H6.out] at hB'
            refine (covers_c _ (fun x y => subF n y x) b a _ _ B _ hB' hA (Nat.le_trans hB hacc.size) (may_rows MB.out (.inr (HK.out ▸ H6.out))) (may_rows MA.out (.inr H6.out)) enter_swap
              (fun x y cx cy W hx hy tx ty hW => swap_c x y cx cy B W _ tx ty hW fun W' tx' ty' hW' => HI.out y x cy cx B W' ty' tx' hW' (may_child MA.out hy) (may_child MB.out hx) (by have := deep_child hy; omega) (by have := deep_child hx; omega))).mono ?_
            rintro e w1 ⟨rfl, hb1⟩
            go_wp2
            go_ret
            exact ⟨ret_b hq.out.symm, acc0 hacc hacc.size hb1⟩
          · by_cases h7 : a.kind = 7
            · have hq := Lib.hid (show subF (n + 1) a b = funcB (subF n) a.subs b.subs by rw [subF, if_pos HK.out, if_neg h4, if_neg h5, if_neg h6, if_pos h7])
              obtain ⟨m, hm⟩ : ∃ m, a.subs.length = m + 1 := ⟨a.subs.length - 1, by have := may_func MA.out h7; omega⟩
              obtain ⟨m', hm'⟩ : ∃ m, b.subs.length = m + 1 := ⟨b.subs.length - 1, by have := may_func MB.out (HK.out ▸ h7); omega⟩
              have hl1 : m ≤ 19 := by have := may_small MA.out; omega
              have hl2 : m' ≤ 19 := by have := may_small MB.out; omega
              have HM := Lib.hid hm
              have HM' := Lib.hid hm'
              have H7 := Lib.hid h7
              have hc1 := HS.out
              have hc2 := HS'.out
              rw [hm] at hc1
              rw [hm'] at hc2
              rw [h7, hm, hm'] at hacc hbx hby ⊢
              clear h4 h5 h6 h7 hm hm'
              by_cases hlen : m = m'
              · subst hlen
                have hT : TyC w B (a.subs[m]'(by rw [HM.out]; omega)) (f m) := HU.out m (by rw [HM.out]; omega)
                have hT' : TyC w B (b.subs[m]'(by rw [HM'.out]; omega)) (f' m) := HU'.out m (by rw [HM'.out]; omega)
                go_wp2_with fail
                generalize ((w.alloc (.cells #[.int .i64 7, .string a.pkg, .int .i64 a.major, .string a.mod, .string a.name, .slice na a.names.length nc, .slice sa (m + 1) sc] 29)).alloc (.cells #[.int .i64 7, .string b.pkg, .int .i64 b.major, .string b.mod, .string b.name, .slice na' b.names.length nc', .slice sa' (m + 1) sc'] 29)) = W at hacc hbx hby ⊢
                have hsz := hacc.size
                have hT1 := hT.under (hacc.mono hB)
                have hT2 := hT'.under (hacc.mono hB)
                have HX := Lib.hid hbx
                have HY := Lib.hid hby
                have HC1 := Lib.hid hc1
                have HC2 := Lib.hid hc2
                obtain ⟨b1, o1, na1, nc1, sa1, sc1, rfl, hbb1, hfk1, c0, c1, c2, c3, c4, c5, c6⟩ := TyC.elem (hc1.keep fun p hp => hacc.cell (p := p) (by omega)) (Nat.lt_succ_self m) hT1
                obtain ⟨b2, o2, na2, nc2, sa2, sc2, rfl, hbb2, hfk2, d0, d1, d2, d3, d4, d5, d6⟩ := TyC.elem (hc2.keep fun p hp => hacc.cell (p := p) (by omega)) (Nat.lt_succ_self m) hT2
                rw [hfk1] at hT1
                rw [hfk2] at hT2
                have HT1 := Lib.hid hT1
                have HT2 := Lib.hid hT2
                have hx1 := hbx.1
                have hx2 := hbx.2
                have hy1 := hby.1
                have hy2 := hby.2
                clear hfk1 hfk2 hT1 hT2 hT hT' hc1 hc2 hbx hby
                have hwm : IntKind.i64.wrap (m : Int) = m := IntWalk.i64_in _ (by omega)
                have hmm : ((m : Int) != (m : Int)) = false := by simp
                have hlm : (m : Int) < (m : Int) + 1 := by omega
                go_still_tail 17, (by kernel_rfl)
                change wpList _ _ _ _ _ W.drew
                go_wp2_with fail
                refine (HI.out (a.subs[m]'(by rw [HM.out]; omega)) (b.subs[m]'(by rw [HM'.out]; omega)) _ _ B W.drew (HT1.out.keep fun _ _ => rfl) (HT2.out.keep fun _ _ => rfl) (Nat.le_trans hB hsz)
                  (may_child MA.out (List.getElem_mem _)) (may_child MB.out (List.getElem_mem _)) (by have := deep_child (t := a) (List.getElem_mem (show m < a.subs.length by rw [HM.out]; omega)); omega) (by have := deep_child (t := b) (List.getElem_mem (show m < b.subs.length by rw [HM'.out]; omega)); omega)).mono ?_
                rintro e w1 ⟨rfl, hb1⟩
                have hacc1 : Below w.heap.size w w1 := acc0 hacc.drew hsz hb1
                have HX1 := Lib.hid (HX.out.under ((Below.refl _ _).drew.trans hb1))
                have HY1 := Lib.hid (HY.out.under ((Below.refl _ _).drew.trans hb1))
                clear c0 c1 c2 c3 c4 c5 c6 d0 d1 d2 d3 d4 d5 d6 hx1 hx2 hy1 hy2 hacc hb1 HX HY
                have hfun : subF (n + 1) a b = (subF n (a.subs[m]'(by rw [HM.out]; omega)) (b.subs[m]'(by rw [HM'.out]; omega)) && argsB (subF n) a.subs b.subs m) := by
                  rw [hq.out, funcB_at HM.out HM'.out]
                have HF := Lib.hid hfun
                clear hfun
                cases hr : subF n (a.subs[m]'(by rw [HM.out]; omega)) (b.subs[m]'(by rw [HM'.out]; omega))
                · go_wp2
                  go_ret
                  exact ⟨ret_b (by rw [HF.out, hr]; rfl), hacc1⟩
                · have HR := Lib.hid hr
                  clear hr
                  go_wp2
                  go_loopw [62] (fun i wr => ∃ j : Nat, j ≤ m ∧ i = .int .i64 j ∧ Below w.heap.size w wr ∧ BoxAt wr w.heap.size #[.int .i64 7, .string a.pkg, .int .i64 a.major, .string a.mod, .string a.name, .slice na a.names.length nc, .slice (some ⟨b1, o1, none⟩) (m + 1) sc] ∧ BoxAt wr (w.heap.size + 1) #[.int .i64 7, .string b.pkg, .int .i64 b.major, .string b.mod, .string b.name, .slice na' b.names.length nc', .slice (some ⟨b2, o2, none⟩) (m + 1) sc'] ∧ ∀ i, i < j → subF n (b.subs.getD i zeroTy) (a.subs.getD i zeroTy) = true) (fun i _ => m - (intOf i).toNat)
                  case atStart => exact ⟨0, Nat.zero_le _, rfl, hacc1, HX1.out, HY1.out, fun i hi => absurd hi (by omega)⟩
                  case round =>
                    clear hacc1 HX1 HY1 HT1 HT2
                    obtain ⟨j, hj, rfl, hacc, hbx, hby, hall⟩ := hrel
                    have HQ := Lib.hid hall
                    have HX := Lib.hid hbx
                    have HY := Lib.hid hby
                    obtain ⟨hx1, hx2⟩ := hbx
                    obtain ⟨hy1, hy2⟩ := hby
                    have hszr := hacc.size
                    clear hall
                    by_cases hlt : j < m
                    · have hT1 := (HU.out j (by rw [HM.out]; omega)).under (hacc.mono hB)
                      have hT2 := (HU'.out j (by rw [HM'.out]; omega)).under (hacc.mono hB)
                      obtain ⟨b1', o1', na1, nc1, sa1, sc1, hA1, hbb1', hfk1, c0, c1, c2, c3, c4, c5, c6⟩ := TyC.elem (HC1.out.keep fun p hp => hacc.cell (p := p) (by omega)) (show j < m + 1 by omega) hT1
                      obtain ⟨b2', o2', na2, nc2, sa2, sc2, hA2, hbb2', hfk2, d0, d1, d2, d3, d4, d5, d6⟩ := TyC.elem (HC2.out.keep fun p hp => hacc.cell (p := p) (by omega)) (show j < m + 1 by omega) hT2
                      cases hA1
                      cases hA2
                      rw [hfk1] at hT1
                      rw [hfk2] at hT2
                      have HT1 := Lib.hid hT1
                      have HT2 := Lib.hid hT2
                      have hlt1 : (j : Int) < (m : Int) + 1 := by omega
                      clear hfk1 hfk2 hT1 hT2
                      go_wp2
                      go_still_tail 10, (by kernel_rfl)
                      change wpList _ _ _ _ _ wr.drew
                      go_wp2_with fail
                      refine (HI.out (b.subs[j]'(by rw [HM'.out]; omega)) (a.subs[j]'(by rw [HM.out]; omega)) _ _ B wr.drew (HT2.out.keep fun _ _ => rfl) (HT1.out.keep fun _ _ => rfl) (Nat.le_trans hB hszr)
                        (may_child MB.out (List.getElem_mem _)) (may_child MA.out (List.getElem_mem _)) (by have := deep_child (t := b) (List.getElem_mem (show j < b.subs.length by rw [HM'.out]; omega)); omega) (by have := deep_child (t := a) (List.getElem_mem (show j < a.subs.length by rw [HM.out]; omega)); omega)).mono ?_
                      rintro e w2 ⟨rfl, hb2⟩
                      have hacc2 : Below w.heap.size w w2 := acc0 hacc.drew hszr hb2
                      have hb3 : Below wr.heap.size wr w2 := (Below.refl _ _).drew.trans hb2
                      cases hr2 : subF n (b.subs[j]'(by rw [HM'.out]; omega)) (a.subs[j]'(by rw [HM.out]; omega))
                      · go_wp2
                        go_ret
                        refine ⟨ret_b ?_, hacc2⟩
                        rw [HF.out, HR.out, Bool.true_and]
                        refine (List.all_eq_false.2 ⟨j, List.mem_range.2 hlt, ?_⟩).symm
                        rw [getD_at (by rw [HM'.out]; omega), getD_at (by rw [HM.out]; omega), hr2]
                        decide
                      · have hnext : ∀ i, i < j + 1 → subF n (b.subs.getD i zeroTy) (a.subs.getD i zeroTy) = true := by
                          intro i hi
                          by_cases he : i = j
                          · rw [he, getD_at (by rw [HM'.out]; omega), getD_at (by rw [HM.out]; omega)]; exact hr2
                          · exact HQ.out i (by omega)
                        have HNX := Lib.hid hnext
                        clear hnext hr2
                        go_wp2
                        first
                          | exact ⟨⟨j + 1, by omega, by go_num, hacc2, HX.out.under hb3, HY.out.under hb3, HNX.out⟩, by simp [intOf]; omega⟩
                          | (go_roundw
                             case rel => exact ⟨j + 1, by omega, by go_num, hacc2, HX.out.under hb3, HY.out.under hb3, HNX.out⟩
                             case measure => simp [intOf]; omega)
                    · obtain rfl : j = m := by omega
                      go_wp2
                      go_ret
                      refine ⟨ret_b ?_, hacc⟩
                      rw [HF.out, HR.out, Bool.true_and]
                      exact (List.all_eq_true.2 fun i hi => HQ.out i (List.mem_range.1 hi)).symm
              · have hne : ((m : Int) != (m' : Int)) = true := by simp; omega
                have HL := Lib.hid hlen
                have hf : subF (n + 1) a b = false := by
                  rw [hq.out, funcB, HM.out, HM'.out, decide_eq_false (by omega), Bool.false_and]
                have HF := Lib.hid hf
                clear hlen hf
                go_wp2
                go_quiet (fail)
                go_wp2
                go_ret
                exact ⟨ret_b HF.out.symm, below_drewN hacc _⟩
            · have hq := Lib.hid (show subF (n + 1) a b = alikeT a b by rw [subF, if_pos HK.out, if_neg h4, if_neg h5, if_neg h6, if_neg h7])
              have e4 : (a.kind == 4) = false := by simp [h4]
              have e5 : (a.kind == 5) = false := by simp [h5]
              have e6 : (a.kind == 6) = false := by simp [h6]
              have e7 : (a.kind == 7) = false := by simp [h7]
              clear h4 h5 h6 h7 hbx hby
              go_wp2_with fail
              generalize ((w.alloc (.cells #[.int .i64 a.kind, .string a.pkg, .int .i64 a.major, .string a.mod, .string a.name, .slice na a.names.length nc, .slice sa a.subs.length sc] 29)).alloc (.cells #[.int .i64 a.kind, .string b.pkg, .int .i64 b.major, .string b.mod, .string b.name, .slice na' b.names.length nc', .slice sa' b.subs.length sc'] 29)) = W at hacc ⊢
              have hA := HA.out.under (hacc.mono hB)
              have hB' := HB.out.under (hacc.mono hB)
              simp only [tyCells] at hA hB'
              rw [← HK.out] at hB'
              refine (Same_c a b _ _ B _ hA hB' (Nat.le_trans hB hacc.size)).mono ?_
              rintro e w1 ⟨rfl, hb1⟩
              go_wp2
              go_ret
              exact ⟨ret_b (by rw [hq.out, MA.out, MB.out]; rfl), acc0 hacc hacc.size hb1⟩
    · have hq := Lib.hid (show subF (n + 1) a b = false by rw [subF, if_neg hk])
      have hne : (a.kind != b.kind) = true := by simp [hk]
      go_wp2
      go_ret
      exact ⟨ret_b hq.out.symm, hacc⟩
end Go.Proofs.YtjeldfipipkfiaaGreatDoor
