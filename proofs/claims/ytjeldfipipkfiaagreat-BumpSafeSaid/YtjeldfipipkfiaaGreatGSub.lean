/- The contract of slices.BinarySearch over texts that rise; no condition but that they rise. -/
import Derived.Test.YtjeldfipipkfiaaGreatGKind
import Derived.StillTailTactics
import Derived.Test.YtjeldfipipkfiaaGreatGRefK
namespace Go.Proofs.YtjeldfipipkfiaaGreat
open Go.RowKit
set_option linter.unusedSimpArgs false
set_option linter.unusedVariables false
theorem less_irrefl : ∀ x : List UInt8, Op.bytesLess x x = false
  | [] => rfl
  | a :: x => by
    have : ¬ a < a := fun e => by have := UInt8.lt_iff_toNat_lt.1 e; omega
    simp [Op.bytesLess, less_irrefl x, this]
theorem less_trans : ∀ x y z : List UInt8, Op.bytesLess x y = true → Op.bytesLess y z = true → Op.bytesLess x z = true
  | _, [], _, h, _ => by simp [Op.bytesLess] at h
  | _, _ :: _, [], _, h => by simp [Op.bytesLess] at h
  | [], _ :: _, _ :: _, _, _ => rfl
  | a :: x, b :: y, c :: z, h1, h2 => by
    simp only [Op.bytesLess, Bool.or_eq_true, Bool.and_eq_true, decide_eq_true_eq, beq_iff_eq] at h1 h2 ⊢
    rcases h1 with h1 | ⟨rfl, h1⟩ <;> rcases h2 with h2 | ⟨rfl, h2⟩
    · exact .inl (by rw [UInt8.lt_iff_toNat_lt] at *; omega)
    · exact .inl h1
    · exact .inl h2
    · exact .inr ⟨rfl, less_trans x y z h1 h2⟩
theorem ltB_trans {a b c : ByteArray} (h1 : ltB a b = true) (h2 : ltB b c = true) : ltB a c = true := less_trans _ _ _ h1 h2
theorem ltB_irrefl (a : ByteArray) : ltB a a = false := less_irrefl _
theorem rise_lt {l : List ByteArray} (h : riseB l = true) : ∀ (i j : Nat) (hij : i < j) (hj : j < l.length), ltB (l[i]'(by omega)) l[j] = true := by
  intro i j
  induction j with
  | zero => intro hij; omega
  | succ j ih =>
    intro hij hj
    have h1 := (riseB_iff l).1 h j hj
    by_cases e : i = j
    · subst e; exact h1
    · exact ltB_trans (ih (by omega) (by omega)) h1
theorem isNaN_c (s : ByteArray) (w : World) : Calls Tryz.prog 53 #[.string s] w fun e w' => e = .returned (.bool false) ∧ w = w' := by
  go_enter Tryz.func53, Tryz.ntmps53
  go_wp2
  go_ret
  exact ⟨rfl, rfl⟩
theorem isNaNs_c (s : ByteArray) (w : World) : Calls Tryz.prog 183 #[.string s] w fun e w' => e = .returned (.bool false) ∧ w = w' := by
  go_enter Tryz.func183, Tryz.ntmps183
  go_wp2
  go_ret
  exact ⟨rfl, rfl⟩
theorem less_c (a b : ByteArray) (w : World) : Calls Tryz.prog 171 #[.string a, .string b] w fun e w' => e = .returned (.bool (ltB a b)) ∧ w = w' := by
  go_enter Tryz.func171, Tryz.ntmps171
  go_wp2_with (go_at_call 53; refine (isNaN_c _ _).mono ?_; rintro e w' ⟨rfl, rfl⟩)
  go_ret
  exact ⟨rfl, rfl⟩
set_option maxHeartbeats 1000000 in
theorem bsearch_c (A : Option Addr) (c B : Nat) (l : List ByteArray) (s : ByteArray) (w : World) (hl : l.length ≤ 1000) (hr : StrsAt w B A l) (hrise : riseB l = true) :
    Calls Tryz.prog 181 #[.slice A l.length c, .string s] w fun e w' => (∃ i : Int, e = .returned (.tuple #[.int .i64 i, .bool (memB s l)]) ∧ (memB s l = true → i = firstOf l s)) ∧ w = w' := by
  have HR := Lib.hid hrise
  clear hrise
  go_enter Tryz.func181, Tryz.ntmps181
  go_wp2
  go_loop [7, 8] (fun i j => ∃ p q : Nat, p ≤ q ∧ q ≤ l.length ∧ i = .int .i64 p ∧ j = .int .i64 q ∧ (∀ x (hx : x < l.length), x < p → ltB l[x] s = true) ∧ (∀ x (hx : x < l.length), q ≤ x → ltB l[x] s = false)) (fun i j => (intOf j).toNat - (intOf i).toNat)
  case atStart => exact ⟨0, l.length, Nat.zero_le _, Nat.le_refl _, rfl, rfl, fun x _ h => absurd h (by omega), fun x hx h => absurd h (by omega)⟩
  case round =>
    obtain ⟨p, q, hpq, hq, rfl, rfl, h1, h2⟩ := hrel
    have H1 := Lib.hid h1
    have H2 := Lib.hid h2
    clear h1 h2
    by_cases hlt : p < q
    · rcases hr with hr | ⟨b, o, rfl, hb, hc⟩
      · subst hr; simp at hq; omega
      have hm : (p + q) / 2 < l.length := by omega
      have hck := hc ((p + q) / 2) hm
      have HC := Lib.hid hc
      clear hc
      go_wp2_with fail
      refine (less_c _ _ _).mono ?_
      rintro e w1 ⟨rfl, rfl⟩
      cases hx : ltB l[(p + q) / 2] s
      · have HX := Lib.hid hx
        go_wp2
        refine ⟨⟨p, (p + q) / 2, by omega, by omega, rfl, by go_num, H1.out, fun x hx' hge => ?_⟩, by simp [intOf]; omega⟩
        by_cases e : x = (p + q) / 2
        · subst e; exact HX.out
        · cases hy : ltB l[x] s
          · rfl
          · have := ltB_trans (rise_lt HR.out ((p + q) / 2) x (by omega) hx') hy
            rw [HX.out] at this; cases this
      · have HX := Lib.hid hx
        go_wp2
        refine ⟨⟨(p + q) / 2 + 1, q, by omega, by omega, by go_num, rfl, fun x hx' hlt' => ?_, H2.out⟩, by simp [intOf]; omega⟩
        by_cases e : x = (p + q) / 2
        · subst e; exact HX.out
        · exact ltB_trans (rise_lt HR.out x ((p + q) / 2) (by omega) hm) HX.out
    · have e : p = q := by omega
      subst e
      by_cases hpn : p < l.length
      · rcases hr with hr | ⟨b, o, rfl, hb, hc⟩
        · subst hr; simp at hpn
        have hck := hc p hpn
        clear hc
        by_cases hx : l[p] = s
        · have hq1 := ba_yes hx
          have HX := Lib.hid hx
          clear hx
          go_wp2_with (go_at_call 183; refine (isNaNs_c _ _).mono ?_; rintro e w' ⟨rfl, rfl⟩)
          go_ret2
          have hm : memB s l = true := (memB_iff s l).2 (by rw [← HX.out]; exact List.getElem_mem hpn)
          refine ⟨⟨p, by rw [hm]; rfl, fun _ => ?_⟩, rfl⟩
          rw [firstOf_hit l s p hpn HX.out (fun j hj e => by
            have := H1.out j (by omega) hj
            rw [e, ltB_irrefl] at this; cases this)]
        · have hq1 := ba_no hx
          have HX := Lib.hid hx
          clear hx
          go_wp2_with (go_at_call 183; refine (isNaNs_c _ _).mono ?_; rintro e w' ⟨rfl, rfl⟩)
          go_ret2
          have hm : memB s l = false := by
            cases hm : memB s l
            · rfl
            · obtain ⟨j, hj, e⟩ := List.getElem_of_mem ((memB_iff s l).1 hm)
              by_cases hjp : j < p
              · have := H1.out j hj hjp
                rw [e, ltB_irrefl] at this; cases this
              · by_cases e2 : j = p
                · subst e2; exact absurd e HX.out
                · have h1 := rise_lt HR.out p j (by omega) hj
                  have h2 := H2.out p hpn (Nat.le_refl _)
                  rw [e] at h1
                  rw [h1] at h2; cases h2
          exact ⟨⟨p, by rw [hm]; rfl, fun h => by rw [hm] at h; cases h⟩, rfl⟩
      · go_wp2
        go_ret2
        have hm : memB s l = false := by
          cases hm : memB s l
          · rfl
          · obtain ⟨j, hj, e⟩ := List.getElem_of_mem ((memB_iff s l).1 hm)
            have := H1.out j hj (by omega)
            rw [e, ltB_irrefl] at this; cases this
        exact ⟨⟨p, by rw [hm]; rfl, fun h => by rw [hm] at h; cases h⟩, rfl⟩
end Go.Proofs.YtjeldfipipkfiaaGreat
namespace Go.Proofs.YtjeldfipipkfiaaGreat
open Go.RowKit
set_option linter.unusedSimpArgs false
set_option linter.unusedVariables false
def zeroTy : Ty := .mk 0 ⟨#[]⟩ 0 ⟨#[]⟩ ⟨#[]⟩ [] []
theorem zero_fits : Fits zeroTy := ⟨by decide, by decide, by decide, by decide, by decide, by decide, (by intro s h; cases h), by decide⟩
theorem zero_tyc (w : World) (B : Nat) : TyC w B zeroTy #[.int .i64 0, .string ⟨#[]⟩, .int .i64 0, .string ⟨#[]⟩, .string ⟨#[]⟩, .slice none 0 0, .slice none 0 0] :=
  .mk zeroTy none 0 none 0 (fun _ => #[]) zero_fits (.inl rfl) (.inl rfl) (Nat.le_refl _) (Nat.le_refl _) (fun i h => absurd h (by show ¬ i < 0; omega))
theorem firstOf_lt : ∀ {l : List ByteArray} {s : ByteArray}, memB s l = true → firstOf l s < l.length
  | [], _, h => by simp [memB] at h
  | x :: l, s, h => by
    simp only [memB, Bool.or_eq_true, decide_eq_true_eq] at h
    simp only [firstOf, List.length_cons]
    split
    · omega
    · rename_i hx
      have := firstOf_lt (h.resolve_left hx)
      omega
def ofT (t : Ty) (s : ByteArray) : Ty := if memB s t.names = true then t.subs.getD (firstOf t.names s) zeroTy else zeroTy
structure RowsOk (t : Ty) : Prop where
  rise : riseB t.names = true
  len : t.names.length ≤ t.subs.length
  small : t.subs.length ≤ 1000
set_option maxHeartbeats 1000000 in
theorem of_c (t : Ty) (s : ByteArray) (cs : Array Value) (B : Nat) (w : World) (ht : TyC w B t cs) (hB : B ≤ w.heap.size) (hrow : RowsOk t) :
    Calls Tryz.prog 175 #[.agg cs, .string s] w fun e w' => (∃ cs', e = .returned (.tuple #[.agg cs', .bool (memB s t.names)]) ∧ TyC w' B (ofT t s) cs') ∧ Below w.heap.size w w' := by
  obtain ⟨na, nc, sa, sc, f, rfl, hf, hn, hs, hnc, hsc, hsub⟩ := ht.inv
  have HR := Lib.hid hrow
  have HN := Lib.hid hn
  have HS := Lib.hid hs
  have HU := Lib.hid hsub
  have hle := hrow.len
  have hsm := hrow.small
  clear hrow hn hs hsub ht hf
  go_enter Tryz.func175, Tryz.ntmps175
  simp only [tyCells]
  go_wp2_with fail
  refine (bsearch_c na nc B t.names s _ (by have := HR.out.len; have := HR.out.small; omega) ((HN.out.alloc hB _).alloc (by simp; omega) _) HR.out.rise).mono ?_
  rintro e w1 ⟨⟨i, rfl, hi⟩, rfl⟩
  cases hm : memB s t.names
  · have HE := Lib.hid (show ofT t s = zeroTy by rw [ofT, hm]; rfl)
    clear hi
    go_wp2
    go_returns
    exact ⟨⟨_, by rw [hm], by rw [HE.out]; exact zero_tyc _ _⟩, ((Below.refl _ _).alloc (Nat.le_refl _) _).alloc (by simp) _⟩
  · have e : i = (firstOf t.names s : Int) := hi hm
    have hlt : firstOf t.names s < t.subs.length := Nat.lt_of_lt_of_le (firstOf_lt hm) hle
    have HE := Lib.hid (show ofT t s = t.subs[firstOf t.names s] by
      rw [ofT, if_pos hm, List.getD_eq_getElem?_getD, List.getElem?_eq_getElem hlt]; rfl)
    subst e
    clear hi
    generalize firstOf t.names s = k at *
    obtain ⟨b, o, na', nc', sa', sc', rfl, hbb, hfk, c0, c1, c2, c3, c4, c5, c6⟩ := TyC.elem HS.out hlt (HU.out k hlt)
    have HK := Lib.hid hfk
    have hbw : b < w.heap.size := by omega
    clear hfk
    go_wp2
    go_returns
    refine ⟨⟨tyCells t.subs[k] na' nc' sa' sc', by rw [hm]; rfl, ?_⟩, ((Below.refl _ _).alloc (Nat.le_refl _) _).alloc (by simp) _⟩
    rw [HE.out, ← HK.out]
    exact (((HU.out k hlt).alloc hB _).alloc (by simp; omega) _)
end Go.Proofs.YtjeldfipipkfiaaGreat
namespace Go.Proofs.YtjeldfipipkfiaaGreat
open Go.RowKit
set_option linter.unusedSimpArgs false
set_option linter.unusedVariables false
def coverL (r : Ty → Ty → Bool) (a : Ty) : List ByteArray → List Ty → Bool
  | s :: ns, y :: ys => memB s a.names && r (ofT a s) y && coverL r a ns ys
  | _, _ => true
theorem ofT_mem {t : Ty} {s : ByteArray} (h : memB s t.names = true) (hl : t.names.length ≤ t.subs.length) : ofT t s ∈ t.subs := by
  have hlt : firstOf t.names s < t.subs.length := Nat.lt_of_lt_of_le (firstOf_lt h) hl
  rw [ofT, if_pos h, List.getD_eq_getElem?_getD, List.getElem?_eq_getElem hlt]
  exact List.getElem_mem hlt
theorem coverL_drop {r : Ty → Ty → Bool} {a : Ty} {ns : List ByteArray} {ys : List Ty} {k : Nat} (h1 : k < ns.length) (h2 : k < ys.length) :
    coverL r a (ns.drop k) (ys.drop k) = (memB ns[k] a.names && r (ofT a ns[k]) ys[k] && coverL r a (ns.drop (k + 1)) (ys.drop (k + 1))) := by
  rw [List.drop_eq_getElem_cons h1, List.drop_eq_getElem_cons h2, coverL]
theorem coverL_end {r : Ty → Ty → Bool} {a : Ty} {ns : List ByteArray} {ys : List Ty} {k : Nat} (h1 : ns.length ≤ k) : coverL r a (ns.drop k) (ys.drop k) = true := by
  rw [List.drop_of_length_le h1]; rfl
set_option maxRecDepth 100000 in
set_option maxHeartbeats 2000000 in
theorem covers_c (fn : Nat) (r : Ty → Ty → Bool) (a b : Ty) (cs cs' : Array Value) (B : Nat) (w : World) (ha : TyC w B a cs) (hb : TyC w B b cs') (hB : B ≤ w.heap.size) (hra : RowsOk a) (hrb : RowsOk b)
    (hfn : ∀ (a : Array Value) (w : World), (callFunc fn a).run Tryz.prog w = .ok (.enter fn a) w)
    (hp : ∀ (x y : Ty) (cx cy : Array Value) (W : World), x ∈ a.subs → y ∈ b.subs → TyC W B x cx → TyC W B y cy → B ≤ W.heap.size → Calls Tryz.prog fn #[.agg cx, .agg cy] W fun e w' => e = .returned (.bool (r x y)) ∧ Below W.heap.size W w') :
    Calls Tryz.prog 159 #[.agg cs, .agg cs', .func (.func fn) #[] #[]] w fun e w' => e = .returned (.bool (coverL r a b.names b.subs)) ∧ Below w.heap.size w w' := by
  obtain ⟨na, nc, sa, sc, f, rfl, -⟩ := ha.inv
  obtain ⟨na', nc', sa', sc', f', rfl, hf', hn', hs', hnc', hsc', hsub'⟩ := hb.inv
  have HA := Lib.hid ha
  have HRA := Lib.hid hra
  have HP := Lib.hid hp
  have HN' := Lib.hid hn'
  have HS' := Lib.hid hs'
  have HU' := Lib.hid hsub'
  have hle := hrb.len
  have hsm := hrb.small
  clear ha hb hp hn' hs' hsub' hra hrb hf'
  go_enter Tryz.func159, Tryz.ntmps159
  simp only [tyCells]
  go_wp2
  go_loopw [14] (fun i wr => ∃ k : Nat, k ≤ b.names.length ∧ i = .int .i64 k ∧ Below w.heap.size w wr ∧ BoxAt wr w.heap.size (tyCells a na nc sa sc) ∧ BoxAt wr (w.heap.size + 1) (tyCells b na' nc' sa' sc') ∧ coverL r a (b.names.drop k) (b.subs.drop k) = coverL r a b.names b.subs) (fun i _ => b.names.length - (intOf i).toNat)
  case atStart => exact ⟨0, Nat.zero_le _, rfl, ((Below.refl _ _).alloc (Nat.le_refl _) _).alloc (by simp) _, (boxes w _ _ _).1, (boxes w _ _ _).2, rfl⟩
  case round =>
    obtain ⟨k, hk, rfl, hacc, hbx, hby, heq⟩ := hrel
    have HQ := Lib.hid heq
    have HX := Lib.hid hbx
    have HY := Lib.hid hby
    have hx1 := hbx.1
    have hx2 := hbx.2
    have hy1 := hby.1
    simp only [tyCells] at hx2
    have hsz := hacc.size
    clear heq hbx hby
    by_cases hlt : k < b.names.length
    · have hlt' : k < b.subs.length := by omega
      rcases HN'.out with hr | ⟨bn, on, rfl, hbn, hc⟩
      · rw [hr] at hlt; simp at hlt
      have hck : wr.cell? ⟨bn, on + k, none⟩ = some (.string b.names[k]) := (hacc.cell (p := ⟨bn, on + k, none⟩) (by simp; omega)).trans (hc k hlt)
      have hdrop := Lib.hid (coverL_drop (r := r) (a := a) hlt hlt')
      clear hc
      go_wp2_with fail
      refine (of_c a b.names[k] _ B _ (HA.out.under (hacc.mono hB)) (Nat.le_trans hB hsz) HRA.out).mono ?_
      rintro e w1 ⟨⟨cx, rfl, hcx⟩, hb1⟩
      have hacc1 : Below w.heap.size w w1 := acc0 hacc hsz hb1
      have hsz1 := hacc1.size
      obtain ⟨xa, xc, ya, yc, g, rfl, -⟩ := hcx.inv
      have HCX := Lib.hid hcx
      clear hcx
      have HY1 := Lib.hid (HY.out.under hb1)
      have HX1 := Lib.hid (HX.out.under hb1)
      have hz1 := HY1.out.1
      have hz2 := HY1.out.2
      have hz3 := HX1.out.1
      simp only [tyCells] at hz2
      cases hm : memB b.names[k] a.names
      · simp only [tyCells]
        go_wp2
        go_quiet (fail)
        go_wp2
        go_ret
        have h := HQ.out
        rw [hdrop.out, hm, Bool.false_and, Bool.false_and] at h
        exact ⟨ret_b h, below_drewN (hacc1.alloc hsz1 _) _⟩
      · have hT : TyC w1 B b.subs[k] (f' k) := (HU'.out k hlt').under (hacc1.mono hB)
        have hnb := BoxAt.new w1 #[.int .i64 (ofT a b.names[k]).kind, .string (ofT a b.names[k]).pkg, .int .i64 (ofT a b.names[k]).major, .string (ofT a b.names[k]).mod, .string (ofT a b.names[k]).name, .slice xa (ofT a b.names[k]).names.length xc, .slice ya (ofT a b.names[k]).subs.length yc] 53
        have hbW : Below w1.heap.size w1 (w1.alloc (.cells #[.int .i64 (ofT a b.names[k]).kind, .string (ofT a b.names[k]).pkg, .int .i64 (ofT a b.names[k]).major, .string (ofT a b.names[k]).mod, .string (ofT a b.names[k]).name, .slice xa (ofT a b.names[k]).names.length xc, .slice ya (ofT a b.names[k]).subs.length yc] 53)) := (Below.refl _ _).alloc (Nat.le_refl _) _
        simp only [tyCells]
        go_wp2
        generalize w1.alloc (.cells #[.int .i64 (ofT a b.names[k]).kind, .string (ofT a b.names[k]).pkg, .int .i64 (ofT a b.names[k]).major, .string (ofT a b.names[k]).mod, .string (ofT a b.names[k]).name, .slice xa (ofT a b.names[k]).names.length xc, .slice ya (ofT a b.names[k]).subs.length yc] 53) = W at hnb hbW ⊢
        have hszW := hbW.size
        have hn1 := hnb.1
        have hn2 := hnb.2
        have hw2 := (HY1.out.under hbW).2
        have hw1 := (HY1.out.under hbW).1
        simp only [tyCells] at hw2
        have hTW : TyC W B b.subs[k] (f' k) := hT.under (hbW.mono (Nat.le_trans hB hsz1))
        have hcW : TyC W B (ofT a b.names[k]) _ := HCX.out.under (hbW.mono (Nat.le_trans hB hsz1))
        obtain ⟨b', o', na2, nc2, sa2, sc2, rfl, hbb', hfk', d0, d1, d2, d3, d4, d5, d6⟩ := TyC.elem (HS'.out.keep fun p hp => (hbW.cell (p := p) (by omega)).trans (hacc1.cell (p := p) (by omega))) hlt' hTW
        have HK' := Lib.hid hfk'
        have hbw : b' < W.heap.size := by omega
        clear hfk'
        go_still_tail 10, (by kernel_rfl)
        change wpList _ _ _ _ _ W.drew
        go_wp2_with fail
        have hcall := HP.out (ofT a b.names[k]) b.subs[k] _ _ W.drew (ofT_mem hm HRA.out.len) (List.getElem_mem hlt')
          (hcW.keep fun _ _ => rfl) (hTW.keep fun _ _ => rfl) (by simp; omega)
        rw [HK'.out] at hcall
        refine hcall.mono ?_
        clear hcall
        rintro e w2 ⟨rfl, hb2⟩
        have hb3 : Below w1.heap.size w1 w2 := (hbW.drew).trans (hb2.mono (by simp; omega))
        have hacc2 : Below w.heap.size w w2 := acc0 hacc1 hsz1 hb3
        cases hx : r (ofT a b.names[k]) b.subs[k]
        · go_wp2
          go_ret
          have h := HQ.out
          rw [hdrop.out, hm, hx, Bool.and_false, Bool.false_and] at h
          exact ⟨ret_b h, hacc2⟩
        · go_wp2
          have h := HQ.out
          rw [hdrop.out, hm, hx, Bool.true_and, Bool.true_and] at h
          first
            | exact ⟨⟨k + 1, by omega, by go_num, hacc2, HX1.out.under hb3, HY1.out.under hb3, h⟩, by simp [intOf]; omega⟩
            | (go_roundw
               case rel => exact ⟨k + 1, by omega, by go_num, hacc2, HX1.out.under hb3, HY1.out.under hb3, h⟩
               case measure => simp [intOf]; omega)
    · go_wp2
      go_ret
      have h := HQ.out
      rw [coverL_end (by omega)] at h
      exact ⟨ret_b h, hacc⟩
end Go.Proofs.YtjeldfipipkfiaaGreat
namespace Go.Proofs.YtjeldfipipkfiaaGreat
open Go.RowKit
set_option linter.unusedSimpArgs false
set_option linter.unusedVariables false
theorem deepL_mem : ∀ {l : List Ty} {s : Ty}, s ∈ l → deepT s ≤ deepL l
  | [], _, h => by cases h
  | x :: l, s, h => by
    rw [deepL]
    rcases List.mem_cons.1 h with rfl | h
    · omega
    · have := deepL_mem h; omega
theorem deep_child {t s : Ty} (h : s ∈ t.subs) : deepT s < deepT t := by
  have := deepL_mem h
  rw [deepT_eq t]; omega
theorem allL_mem : ∀ {l : List Ty} {s : Ty}, s ∈ l → allL l = true → allT s = true
  | [], _, h, _ => by cases h
  | x :: l, s, h, ha => by
    rw [allL, Bool.and_eq_true] at ha
    rcases List.mem_cons.1 h with rfl | h
    · exact ha.1
    · exact allL_mem h ha.2
theorem may_child {t s : Ty} (h : mayT t = true) (hs : s ∈ t.subs) : mayT s = true := by
  rw [may_is, mayR, allT_eq] at h ⊢
  simp only [Bool.and_eq_true, decide_eq_true_eq] at h ⊢
  obtain ⟨⟨⟨h1, h2⟩, h3⟩, h4⟩ := h
  have h5 := allL_mem hs h2
  rw [allT_eq, Bool.and_eq_true] at h5
  have h6 := manyL_mem hs
  have h7 := deep_child hs
  rw [manyT_eq] at h3
  exact ⟨⟨h5, by omega⟩, by omega⟩
theorem may_shape {t : Ty} (h : mayT t = true) : shapeB t = true := by
  rw [may_is, mayR, allT_eq] at h
  simp only [Bool.and_eq_true] at h
  exact h.1.1.1
theorem may_small {t : Ty} (h : mayT t = true) : t.subs.length ≤ 20 := by
  have := may_shape h
  simp only [shapeB, Bool.and_eq_true, decide_eq_true_eq] at this
  omega
theorem may_kind {t : Ty} (h : mayT t = true) : kindB t = true := by
  have := may_shape h
  simp only [shapeB, Bool.and_eq_true, decide_eq_true_eq] at this
  exact this.2
theorem may_list {t : Ty} (h : mayT t = true) (hk : t.kind = 4) : t.subs.length = 1 := by
  have := may_kind h
  simp [kindB, hk] at this
  omega
theorem may_func {t : Ty} (h : mayT t = true) (hk : t.kind = 7) : 1 ≤ t.subs.length := by
  have := may_kind h
  simp [kindB, hk] at this
  omega
theorem may_rows {t : Ty} (h : mayT t = true) (hk : t.kind = 5 ∨ t.kind = 6) : RowsOk t := by
  have h1 := may_kind h
  have h2 := may_small h
  rcases hk with hk | hk
  · simp [kindB, hk, namesB] at h1
    exact ⟨h1.2.2, by omega, by omega⟩
  · simp [kindB, hk, namesB] at h1
    exact ⟨h1.2.2, by omega, by omega⟩
def argsB (r : Ty → Ty → Bool) (xs ys : List Ty) (n : Nat) : Bool := (List.range n).all fun i => r (ys.getD i zeroTy) (xs.getD i zeroTy)
def funcB (r : Ty → Ty → Bool) (xs ys : List Ty) : Bool :=
  decide (xs.length = ys.length) && (r (xs.getD (xs.length - 1) zeroTy) (ys.getD (xs.length - 1) zeroTy) && argsB r xs ys (xs.length - 1))
def subF : Nat → Ty → Ty → Bool
  | 0, _, _ => false
  | n + 1, a, b =>
    if a.kind = b.kind then
      if a.kind = 4 then subF n (a.subs.getD 0 zeroTy) (b.subs.getD 0 zeroTy)
      else if a.kind = 5 then coverL (subF n) a b.names b.subs
      else if a.kind = 6 then coverL (fun x y => subF n y x) b a.names a.subs
      else if a.kind = 7 then funcB (subF n) a.subs b.subs
      else alikeT a b
    else false
theorem getD_at {l : List Ty} {k : Nat} (h : k < l.length) : l.getD k zeroTy = l[k] := by
  rw [List.getD_eq_getElem?_getD, List.getElem?_eq_getElem h]; rfl
theorem funcB_at {r : Ty → Ty → Bool} {xs ys : List Ty} {m : Nat} (h1 : xs.length = m + 1) (h2 : ys.length = m + 1) :
    funcB r xs ys = (r (xs[m]'(by omega)) (ys[m]'(by omega)) && argsB r xs ys m) := by
  have e : xs.length - 1 = m := by omega
  rw [funcB, e, decide_eq_true (h1.trans h2.symm), Bool.true_and, getD_at (by omega), getD_at (by omega)]
theorem enter_below (a : Array Value) (w : World) : (callFunc 126 a).run Tryz.prog w = .ok (.enter 126 a) w := by kernel_rfl
theorem enter_swap (a : Array Value) (w : World) : (callFunc 160 a).run Tryz.prog w = .ok (.enter 160 a) w := by kernel_rfl
theorem swap_c (x y : Ty) (cx cy : Array Value) (B : Nat) (w : World) (v : Bool) (hx : TyC w B x cx) (hy : TyC w B y cy) (hB : B ≤ w.heap.size)
    (hp : ∀ W : World, TyC W B x cx → TyC W B y cy → B ≤ W.heap.size → Calls Tryz.prog 126 #[.agg cy, .agg cx] W fun e w' => e = .returned (.bool v) ∧ Below W.heap.size W w') :
    Calls Tryz.prog 160 #[.agg cx, .agg cy] w fun e w' => e = .returned (.bool v) ∧ Below w.heap.size w w' := by
  obtain ⟨na, nc, sa, sc, f, rfl, -⟩ := hx.inv
  obtain ⟨na', nc', sa', sc', f', rfl, -⟩ := hy.inv
  have HX := Lib.hid hx
  have HY := Lib.hid hy
  have HP := Lib.hid hp
  clear hx hy hp
  go_enter Tryz.func160, Tryz.ntmps160
  simp only [tyCells]
  go_wp2_with fail
  refine (HP.out _ ((HX.out.alloc hB _).alloc (by simp; omega) _) ((HY.out.alloc hB _).alloc (by simp; omega) _) (by simp; omega)).mono ?_
  rintro e w1 ⟨rfl, hb1⟩
  go_wp2
  go_ret
  exact ⟨ret_b rfl, acc2 (Below.refl _ _) (Nat.le_refl _) hb1⟩
set_option maxRecDepth 100000 in
set_option maxHeartbeats 4000000 in
theorem below_c : ∀ (n : Nat) (a b : Ty) (cs cs' : Array Value) (B : Nat) (w : World), TyC w B a cs → TyC w B b cs' → B ≤ w.heap.size →
    mayT a = true → mayT b = true → deepT a ≤ n → deepT b ≤ n →
    Calls Tryz.prog 126 #[.agg cs, .agg cs'] w fun e w' => e = .returned (.bool (subF n a b)) ∧ Below w.heap.size w w'
  | 0, a, b, _, _, _, _, _, _, _, _, _, hd, _ => by have := deep_bound a; omega
  | n + 1, a, b, cs, cs', B, w, ha, hb, hB, ma, mb, da, db => by
    have HI := Lib.hid (below_c n)
    obtain ⟨na, nc, sa, sc, f, rfl, -, -, hs, -, -, hsub⟩ := ha.inv
    obtain ⟨na', nc', sa', sc', f', rfl, -, -, hs', -, -, hsub'⟩ := hb.inv
    have HA := Lib.hid ha
    have HB := Lib.hid hb
    have HS := Lib.hid hs
    have HS' := Lib.hid hs'
    have HU := Lib.hid hsub
    have HU' := Lib.hid hsub'
    have MA := Lib.hid ma
    have MB := Lib.hid mb
    have hl1 := may_small ma
    have hl2 := may_small mb
    clear ha hb hs hs' hsub hsub' ma mb
    go_enter Tryz.func126, Tryz.ntmps126
    have hacc : Below w.heap.size w ((w.alloc (.cells (tyCells a na nc sa sc) 53)).alloc (.cells (tyCells b na' nc' sa' sc') 53)) := ((Below.refl _ _).alloc (Nat.le_refl _) _).alloc (by simp) _
    have hbx := (boxes w (tyCells a na nc sa sc) (tyCells b na' nc' sa' sc') 53).1
    have hby := (boxes w (tyCells a na nc sa sc) (tyCells b na' nc' sa' sc') 53).2
    simp only [tyCells] at hacc hbx hby ⊢
    by_cases hk : a.kind = b.kind
    · have HK := Lib.hid hk
      rw [← hk] at hacc hbx hby ⊢
      clear hk
      by_cases h4 : a.kind = 4
      · have H4 := Lib.hid h4
        have hq := Lib.hid (show subF (n + 1) a b = subF n (a.subs.getD 0 zeroTy) (b.subs.getD 0 zeroTy) by rw [subF, if_pos HK.out, if_pos h4])
        have hz1 : a.subs.length = 1 := may_list MA.out h4
        have hz2 : b.subs.length = 1 := may_list MB.out (HK.out ▸ h4)
        have HZ1 := Lib.hid hz1
        have HZ2 := Lib.hid hz2
        have hc1 := HS.out
        have hc2 := HS'.out
        rw [hz1] at hc1
        rw [hz2] at hc2
        rw [h4, hz1, hz2] at hacc hbx hby ⊢
        clear h4 hl1 hl2
        have hT : TyC w B (a.subs[0]'(by rw [HZ1.out]; decide)) (f 0) := HU.out 0 (by rw [HZ1.out]; decide)
        have hT' : TyC w B (b.subs[0]'(by rw [HZ2.out]; decide)) (f' 0) := HU'.out 0 (by rw [HZ2.out]; decide)
        clear hz1 hz2
        go_wp2_with fail
        generalize ((w.alloc (.cells #[.int .i64 4, .string a.pkg, .int .i64 a.major, .string a.mod, .string a.name, .slice na a.names.length nc, .slice sa 1 sc] 53)).alloc (.cells #[.int .i64 4, .string b.pkg, .int .i64 b.major, .string b.mod, .string b.name, .slice na' b.names.length nc', .slice sa' 1 sc'] 53)) = W at hacc hbx hby ⊢
        have hsz := hacc.size
        have hT1 := hT.under (hacc.mono hB)
        have hT2 := hT'.under (hacc.mono hB)
        obtain ⟨b1, o1, na1, nc1, sa1, sc1, rfl, hbb1, hfk1, c0, c1, c2, c3, c4, c5, c6⟩ := TyC.elem (hc1.keep fun p hp => hacc.cell (p := p) (by omega)) (Nat.zero_lt_one) hT1
        obtain ⟨b2, o2, na2, nc2, sa2, sc2, rfl, hbb2, hfk2, d0, d1, d2, d3, d4, d5, d6⟩ := TyC.elem (hc2.keep fun p hp => hacc.cell (p := p) (by omega)) (Nat.zero_lt_one) hT2
        rw [hfk1] at hT1
        rw [hfk2] at hT2
        have HT1 := Lib.hid hT1
        have HT2 := Lib.hid hT2
        simp only [Nat.zero_mul, Nat.add_zero] at c0 c1 c2 c3 c4 c5 c6 d0 d1 d2 d3 d4 d5 d6
        have hx1 := hbx.1
        have hx2 := hbx.2
        have hy1 := hby.1
        have hy2 := hby.2
        clear hfk1 hfk2 hT1 hT2 hT hT' hc1 hc2 hbx hby
        go_still_tail 8, (by kernel_rfl)
        change wpList _ _ _ _ _ W.drew
        go_wp2_with fail
        refine (HI.out (a.subs[0]'(by rw [HZ1.out]; decide)) (b.subs[0]'(by rw [HZ2.out]; decide)) _ _ B W.drew (HT1.out.keep fun _ _ => rfl) (HT2.out.keep fun _ _ => rfl) (Nat.le_trans hB hsz)
          (may_child MA.out (List.getElem_mem _)) (may_child MB.out (List.getElem_mem _)) (by have := deep_child (t := a) (List.getElem_mem (show 0 < a.subs.length by have := HZ1.out; omega)); omega) (by have := deep_child (t := b) (List.getElem_mem (show 0 < b.subs.length by have := HZ2.out; omega)); omega)).mono ?_
        rintro e w1 ⟨rfl, hb1⟩
        go_wp2
        go_ret
        refine ⟨ret_b ?_, acc0 hacc.drew hsz hb1⟩
        rw [hq.out, getD_at, getD_at]
      · clear hl1 hl2
        by_cases h5 : a.kind = 5
        · have hq := Lib.hid (show subF (n + 1) a b = coverL (subF n) a b.names b.subs by rw [subF, if_pos HK.out, if_neg h4, if_pos h5])
          have H5 := Lib.hid h5
          rw [h5] at hacc hbx hby ⊢
          clear h4 h5 hbx hby
          go_wp2_with fail
          generalize ((w.alloc (.cells #[.int .i64 5, .string a.pkg, .int .i64 a.major, .string a.mod, .string a.name, .slice na a.names.length nc, .slice sa a.subs.length sc] 53)).alloc (.cells #[.int .i64 5, .string b.pkg, .int .i64 b.major, .string b.mod, .string b.name, .slice na' b.names.length nc', .slice sa' b.subs.length sc'] 53)) = W at hacc ⊢
          have hA := HA.out.under (hacc.mono hB)
          have hB' := HB.out.under (hacc.mono hB)
          simp only [tyCells] at hA hB'
          rw [H5.out] at hA
          rw [← HK.out, H5.out] at hB'
          refine (covers_c _ (subF n) a b _ _ B _ hA hB' (Nat.le_trans hB hacc.size) (may_rows MA.out (.inl H5.out)) (may_rows MB.out (.inl (HK.out ▸ H5.out))) enter_below
            (fun x y cx cy W hx hy tx ty hW => HI.out x y cx cy B W tx ty hW (may_child MA.out hx) (may_child MB.out hy) (by have := deep_child hx; omega) (by have := deep_child hy; omega))).mono ?_
          rintro e w1 ⟨rfl, hb1⟩
          go_wp2
          go_ret
          exact ⟨ret_b hq.out.symm, acc0 hacc hacc.size hb1⟩
        · by_cases h6 : a.kind = 6
          · have hq := Lib.hid (show subF (n + 1) a b = coverL (fun x y => subF n y x) b a.names a.subs by rw [subF, if_pos HK.out, if_neg h4, if_neg h5, if_pos h6])
            have H6 := Lib.hid h6
            rw [h6] at hacc hbx hby ⊢
            clear h4 h5 h6 hbx hby
            go_wp2_with fail
            generalize ((w.alloc (.cells #[.int .i64 6, .string a.pkg, .int .i64 a.major, .string a.mod, .string a.name, .slice na a.names.length nc, .slice sa a.subs.length sc] 53)).alloc (.cells #[.int .i64 6, .string b.pkg, .int .i64 b.major, .string b.mod, .string b.name, .slice na' b.names.length nc', .slice sa' b.subs.length sc'] 53)) = W at hacc ⊢
            have hA := HA.out.under (hacc.mono hB)
            have hB' := HB.out.under (hacc.mono hB)
            simp only [tyCells] at hA hB'
            rw [H6.out] at hA
            rw [← HK.out, H6.out] at hB'
            refine (covers_c _ (fun x y => subF n y x) b a _ _ B _ hB' hA (Nat.le_trans hB hacc.size) (may_rows MB.out (.inr (HK.out ▸ H6.out))) (may_rows MA.out (.inr H6.out)) enter_swap
              (fun x y cx cy W hx hy tx ty hW => swap_c x y cx cy B W _ tx ty hW fun W' tx' ty' hW' => HI.out y x cy cx B W' ty' tx' hW' (may_child MA.out hy) (may_child MB.out hx) (by have := deep_child hy; omega) (by have := deep_child hx; omega))).mono ?_
            rintro e w1 ⟨rfl, hb1⟩
            go_wp2
            go_ret
            exact ⟨ret_b hq.out.symm, acc0 hacc hacc.size hb1⟩
          · by_cases h7 : a.kind = 7
            · have hq := Lib.hid (show subF (n + 1) a b = funcB (subF n) a.subs b.subs by rw [subF, if_pos HK.out, if_neg h4, if_neg h5, if_neg h6, if_pos h7])
              obtain ⟨m, hm⟩ : ∃ m, a.subs.length = m + 1 := ⟨a.subs.length - 1, by have := may_func MA.out h7; omega⟩
              obtain ⟨m', hm'⟩ : ∃ m, b.subs.length = m + 1 := ⟨b.subs.length - 1, by have := may_func MB.out (HK.out ▸ h7); omega⟩
              have hl1 : m ≤ 19 := by have := may_small MA.out; omega
              have hl2 : m' ≤ 19 := by have := may_small MB.out; omega
              have HM := Lib.hid hm
              have HM' := Lib.hid hm'
              have H7 := Lib.hid h7
              have hc1 := HS.out
              have hc2 := HS'.out
              rw [hm] at hc1
              rw [hm'] at hc2
              rw [h7, hm, hm'] at hacc hbx hby ⊢
              clear h4 h5 h6 h7 hm hm'
              by_cases hlen : m = m'
              · subst hlen
                have hT : TyC w B (a.subs[m]'(by rw [HM.out]; omega)) (f m) := HU.out m (by rw [HM.out]; omega)
                have hT' : TyC w B (b.subs[m]'(by rw [HM'.out]; omega)) (f' m) := HU'.out m (by rw [HM'.out]; omega)
                go_wp2_with fail
                generalize ((w.alloc (.cells #[.int .i64 7, .string a.pkg, .int .i64 a.major, .string a.mod, .string a.name, .slice na a.names.length nc, .slice sa (m + 1) sc] 53)).alloc (.cells #[.int .i64 7, .string b.pkg, .int .i64 b.major, .string b.mod, .string b.name, .slice na' b.names.length nc', .slice sa' (m + 1) sc'] 53)) = W at hacc hbx hby ⊢
                have hsz := hacc.size
                have hT1 := hT.under (hacc.mono hB)
                have hT2 := hT'.under (hacc.mono hB)
                have HX := Lib.hid hbx
                have HY := Lib.hid hby
                have HC1 := Lib.hid hc1
                have HC2 := Lib.hid hc2
                obtain ⟨b1, o1, na1, nc1, sa1, sc1, rfl, hbb1, hfk1, c0, c1, c2, c3, c4, c5, c6⟩ := TyC.elem (hc1.keep fun p hp => hacc.cell (p := p) (by omega)) (Nat.lt_succ_self m) hT1
                obtain ⟨b2, o2, na2, nc2, sa2, sc2, rfl, hbb2, hfk2, d0, d1, d2, d3, d4, d5, d6⟩ := TyC.elem (hc2.keep fun p hp => hacc.cell (p := p) (by omega)) (Nat.lt_succ_self m) hT2
                rw [hfk1] at hT1
                rw [hfk2] at hT2
                have HT1 := Lib.hid hT1
                have HT2 := Lib.hid hT2
                have hx1 := hbx.1
                have hx2 := hbx.2
                have hy1 := hby.1
                have hy2 := hby.2
                clear hfk1 hfk2 hT1 hT2 hT hT' hc1 hc2 hbx hby
                have hwm : IntKind.i64.wrap (m : Int) = m := IntWalk.i64_in _ (by omega)
                have hmm : ((m : Int) != (m : Int)) = false := by simp
                have hlm : (m : Int) < (m : Int) + 1 := by omega
                go_still_tail 17, (by kernel_rfl)
                change wpList _ _ _ _ _ W.drew
                go_wp2_with fail
                refine (HI.out (a.subs[m]'(by rw [HM.out]; omega)) (b.subs[m]'(by rw [HM'.out]; omega)) _ _ B W.drew (HT1.out.keep fun _ _ => rfl) (HT2.out.keep fun _ _ => rfl) (Nat.le_trans hB hsz)
                  (may_child MA.out (List.getElem_mem _)) (may_child MB.out (List.getElem_mem _)) (by have := deep_child (t := a) (List.getElem_mem (show m < a.subs.length by rw [HM.out]; omega)); omega) (by have := deep_child (t := b) (List.getElem_mem (show m < b.subs.length by rw [HM'.out]; omega)); omega)).mono ?_
                rintro e w1 ⟨rfl, hb1⟩
                have hacc1 : Below w.heap.size w w1 := acc0 hacc.drew hsz hb1
                have HX1 := Lib.hid (HX.out.under ((Below.refl _ _).drew.trans hb1))
                have HY1 := Lib.hid (HY.out.under ((Below.refl _ _).drew.trans hb1))
                clear c0 c1 c2 c3 c4 c5 c6 d0 d1 d2 d3 d4 d5 d6 hx1 hx2 hy1 hy2 hacc hb1 HX HY
                have hfun : subF (n + 1) a b = (subF n (a.subs[m]'(by rw [HM.out]; omega)) (b.subs[m]'(by rw [HM'.out]; omega)) && argsB (subF n) a.subs b.subs m) := by
                  rw [hq.out, funcB_at HM.out HM'.out]
                have HF := Lib.hid hfun
                clear hfun
                cases hr : subF n (a.subs[m]'(by rw [HM.out]; omega)) (b.subs[m]'(by rw [HM'.out]; omega))
                · go_wp2
                  go_ret
                  exact ⟨ret_b (by rw [HF.out, hr]; rfl), hacc1⟩
                · have HR := Lib.hid hr
                  clear hr
                  go_wp2
                  go_loopw [62] (fun i wr => ∃ j : Nat, j ≤ m ∧ i = .int .i64 j ∧ Below w.heap.size w wr ∧ BoxAt wr w.heap.size #[.int .i64 7, .string a.pkg, .int .i64 a.major, .string a.mod, .string a.name, .slice na a.names.length nc, .slice (some ⟨b1, o1, none⟩) (m + 1) sc] ∧ BoxAt wr (w.heap.size + 1) #[.int .i64 7, .string b.pkg, .int .i64 b.major, .string b.mod, .string b.name, .slice na' b.names.length nc', .slice (some ⟨b2, o2, none⟩) (m + 1) sc'] ∧ ∀ i, i < j → subF n (b.subs.getD i zeroTy) (a.subs.getD i zeroTy) = true) (fun i _ => m - (intOf i).toNat)
                  case atStart => exact ⟨0, Nat.zero_le _, rfl, hacc1, HX1.out, HY1.out, fun i hi => absurd hi (by omega)⟩
                  case round =>
                    clear hacc1 HX1 HY1 HT1 HT2
                    obtain ⟨j, hj, rfl, hacc, hbx, hby, hall⟩ := hrel
                    have HQ := Lib.hid hall
                    have HX := Lib.hid hbx
                    have HY := Lib.hid hby
                    obtain ⟨hx1, hx2⟩ := hbx
                    obtain ⟨hy1, hy2⟩ := hby
                    have hszr := hacc.size
                    clear hall
                    by_cases hlt : j < m
                    · have hT1 := (HU.out j (by rw [HM.out]; omega)).under (hacc.mono hB)
                      have hT2 := (HU'.out j (by rw [HM'.out]; omega)).under (hacc.mono hB)
                      obtain ⟨b1', o1', na1, nc1, sa1, sc1, hA1, hbb1', hfk1, c0, c1, c2, c3, c4, c5, c6⟩ := TyC.elem (HC1.out.keep fun p hp => hacc.cell (p := p) (by omega)) (show j < m + 1 by omega) hT1
                      obtain ⟨b2', o2', na2, nc2, sa2, sc2, hA2, hbb2', hfk2, d0, d1, d2, d3, d4, d5, d6⟩ := TyC.elem (HC2.out.keep fun p hp => hacc.cell (p := p) (by omega)) (show j < m + 1 by omega) hT2
                      cases hA1
                      cases hA2
                      rw [hfk1] at hT1
                      rw [hfk2] at hT2
                      have HT1 := Lib.hid hT1
                      have HT2 := Lib.hid hT2
                      have hlt1 : (j : Int) < (m : Int) + 1 := by omega
                      clear hfk1 hfk2 hT1 hT2
                      go_wp2
                      go_still_tail 10, (by kernel_rfl)
                      change wpList _ _ _ _ _ wr.drew
                      go_wp2_with fail
                      refine (HI.out (b.subs[j]'(by rw [HM'.out]; omega)) (a.subs[j]'(by rw [HM.out]; omega)) _ _ B wr.drew (HT2.out.keep fun _ _ => rfl) (HT1.out.keep fun _ _ => rfl) (Nat.le_trans hB hszr)
                        (may_child MB.out (List.getElem_mem _)) (may_child MA.out (List.getElem_mem _)) (by have := deep_child (t := b) (List.getElem_mem (show j < b.subs.length by rw [HM'.out]; omega)); omega) (by have := deep_child (t := a) (List.getElem_mem (show j < a.subs.length by rw [HM.out]; omega)); omega)).mono ?_
                      rintro e w2 ⟨rfl, hb2⟩
                      have hacc2 : Below w.heap.size w w2 := acc0 hacc.drew hszr hb2
                      have hb3 : Below wr.heap.size wr w2 := (Below.refl _ _).drew.trans hb2
                      cases hr2 : subF n (b.subs[j]'(by rw [HM'.out]; omega)) (a.subs[j]'(by rw [HM.out]; omega))
                      · go_wp2
                        go_ret
                        refine ⟨ret_b ?_, hacc2⟩
                        rw [HF.out, HR.out, Bool.true_and]
                        refine (List.all_eq_false.2 ⟨j, List.mem_range.2 hlt, ?_⟩).symm
                        rw [getD_at (by rw [HM'.out]; omega), getD_at (by rw [HM.out]; omega), hr2]
                        decide
                      · have hnext : ∀ i, i < j + 1 → subF n (b.subs.getD i zeroTy) (a.subs.getD i zeroTy) = true := by
                          intro i hi
                          by_cases he : i = j
                          · rw [he, getD_at (by rw [HM'.out]; omega), getD_at (by rw [HM.out]; omega)]; exact hr2
                          · exact HQ.out i (by omega)
                        have HNX := Lib.hid hnext
                        clear hnext hr2
                        go_wp2
                        first
                          | exact ⟨⟨j + 1, by omega, by go_num, hacc2, HX.out.under hb3, HY.out.under hb3, HNX.out⟩, by simp [intOf]; omega⟩
                          | (go_roundw
                             case rel => exact ⟨j + 1, by omega, by go_num, hacc2, HX.out.under hb3, HY.out.under hb3, HNX.out⟩
                             case measure => simp [intOf]; omega)
                    · obtain rfl : j = m := by omega
                      go_wp2
                      go_ret
                      refine ⟨ret_b ?_, hacc⟩
                      rw [HF.out, HR.out, Bool.true_and]
                      exact (List.all_eq_true.2 fun i hi => HQ.out i (List.mem_range.1 hi)).symm
              · have hne : ((m : Int) != (m' : Int)) = true := by simp; omega
                have HL := Lib.hid hlen
                have hf : subF (n + 1) a b = false := by
                  rw [hq.out, funcB, HM.out, HM'.out, decide_eq_false (by omega), Bool.false_and]
                have HF := Lib.hid hf
                clear hlen hf
                go_wp2
                go_quiet (fail)
                go_wp2
                go_ret
                exact ⟨ret_b HF.out.symm, below_drewN hacc _⟩
            · have hq := Lib.hid (show subF (n + 1) a b = alikeT a b by rw [subF, if_pos HK.out, if_neg h4, if_neg h5, if_neg h6, if_neg h7])
              have e4 : (a.kind == 4) = false := by simp [h4]
              have e5 : (a.kind == 5) = false := by simp [h5]
              have e6 : (a.kind == 6) = false := by simp [h6]
              have e7 : (a.kind == 7) = false := by simp [h7]
              clear h4 h5 h6 h7 hbx hby
              go_wp2_with fail
              generalize ((w.alloc (.cells #[.int .i64 a.kind, .string a.pkg, .int .i64 a.major, .string a.mod, .string a.name, .slice na a.names.length nc, .slice sa a.subs.length sc] 53)).alloc (.cells #[.int .i64 a.kind, .string b.pkg, .int .i64 b.major, .string b.mod, .string b.name, .slice na' b.names.length nc', .slice sa' b.subs.length sc'] 53)) = W at hacc ⊢
              have hA := HA.out.under (hacc.mono hB)
              have hB' := HB.out.under (hacc.mono hB)
              simp only [tyCells] at hA hB'
              rw [← HK.out] at hB'
              refine (Same_c a b _ _ B _ hA hB' (Nat.le_trans hB hacc.size)).mono ?_
              rintro e w1 ⟨rfl, hb1⟩
              go_wp2
              go_ret
              exact ⟨ret_b (by rw [hq.out, MA.out, MB.out]; rfl), acc0 hacc hacc.size hb1⟩
    · have hq := Lib.hid (show subF (n + 1) a b = false by rw [subF, if_neg hk])
      have hne : (a.kind != b.kind) = true := by simp [hk]
      go_wp2
      go_ret
      exact ⟨ret_b hq.out.symm, hacc⟩
end Go.Proofs.YtjeldfipipkfiaaGreat
namespace Go.Proofs.YtjeldfipipkfiaaGreat
open Go.RowKit
set_option linter.unusedSimpArgs false
set_option linter.unusedVariables false
def SubB (a b : Ty) : Bool := PlainB a && (PlainB b && subF 32 a b)
theorem plain_may {t : Ty} (h : PlainB t = true) : mayT t = true := by
  rw [PlainB, Bool.and_eq_true] at h; exact h.1
theorem may_deep {t : Ty} (h : mayT t = true) : deepT t ≤ 32 := by
  rw [may_is, mayR] at h
  simp only [Bool.and_eq_true, decide_eq_true_eq] at h
  exact h.2
set_option maxHeartbeats 1000000 in
theorem Sub_c (a b : Ty) (cs cs' : Array Value) (B : Nat) (w : World) (ha : TyC w B a cs) (hb : TyC w B b cs') (hB : B ≤ w.heap.size) :
    Calls Tryz.prog 78 #[.agg cs, .agg cs'] w fun e w' => e = .returned (.bool (SubB a b)) ∧ Below w.heap.size w w' := by
  obtain ⟨na, nc, sa, sc, f, rfl, -⟩ := ha.inv
  obtain ⟨na', nc', sa', sc', f', rfl, -⟩ := hb.inv
  have HA := Lib.hid ha
  have HB := Lib.hid hb
  clear ha hb
  go_enter Tryz.func78, Tryz.ntmps78
  simp only [tyCells]
  go_wp2_with fail
  refine (Plain_c a _ B _ ((HA.out.alloc hB _).alloc (by simp; omega) _) (by simp; omega)).mono ?_
  rintro e w1 ⟨rfl, hb1⟩
  have hacc : Below w.heap.size w w1 := acc2 (Below.refl _ _) (Nat.le_refl _) hb1
  have hbx := (boxes _ _ _ _).1.under hb1
  have hby := (boxes _ _ _ _).2.under hb1
  have HX := Lib.hid hbx
  have HY := Lib.hid hby
  obtain ⟨hx1, hx2⟩ := hbx
  obtain ⟨hy1, hy2⟩ := hby
  cases h1 : PlainB a
  · go_wp2
    go_ret
    exact ⟨ret_b (by simp [SubB, h1]), hacc⟩
  · go_wp2_with fail
    refine (Plain_c b _ B _ (HB.out.under (hacc.mono hB)) (Nat.le_trans hB hacc.size)).mono ?_
    rintro e w2 ⟨rfl, hb2⟩
    have hacc := acc0 hacc hacc.size hb2
    obtain ⟨hx3, hx4⟩ := HX.out.under hb2
    obtain ⟨hy3, hy4⟩ := HY.out.under hb2
    cases h2 : PlainB b
    · go_wp2
      go_ret
      exact ⟨ret_b (by simp [SubB, h1, h2]), hacc⟩
    · go_wp2_with fail
      refine (below_c 32 a b _ _ B _ (HA.out.under (hacc.mono hB)) (HB.out.under (hacc.mono hB)) (Nat.le_trans hB hacc.size) (plain_may h1) (plain_may h2) (may_deep (plain_may h1)) (may_deep (plain_may h2))).mono ?_
      rintro e w3 ⟨rfl, hb3⟩
      go_wp2
      go_ret
      exact ⟨ret_b (by simp [SubB, h1, h2]), acc0 hacc hacc.size hb3⟩
end Go.Proofs.YtjeldfipipkfiaaGreat
