/- The contract of sub.covers, with what fits handed in as a function's contract; the premise: names rise and are no more than types. -/
import Derived.Test.YtjeldfipipkfiaaGreatDoorSubOf
import Derived.StillTailTactics
namespace Go.Proofs.YtjeldfipipkfiaaGreatDoor
open Go.RowKit
set_option linter.unusedSimpArgs false
set_option linter.unusedVariables false
def coverL (r : Ty → Ty → Bool) (a : Ty) : List ByteArray → List Ty → Bool
  | s :: ns, y :: ys => memB s a.names && r (ofT a s) y && coverL r a ns ys
  | _, _ => true
theorem ofT_mem {t : Ty} {s : ByteArray} (h : memB s t.names = true) (hl : t.names.length ≤ t.subs.length) : ofT t s ∈ t.subs := by
  have hlt : firstOf t.names s < t.subs.length := Nat.lt_of_lt_of_le (firstOf_lt h) hl
  rw [ofT, if_pos h, List.getD_eq_getElem?_getD, List.getElem?_eq_getElem hlt]
  exact List.getElem_mem hlt
theorem coverL_drop {r : Ty → Ty → Bool} {a : Ty} {ns : List ByteArray} {ys : List Ty} {k : Nat} (h1 : k < ns.length) (h2 : k < ys.length) :
    coverL r a (ns.drop k) (ys.drop k) = (memB ns[k] a.names && r (ofT a ns[k]) ys[k] && coverL r a (ns.drop (k + 1)) (ys.drop (k + 1))) := by
  rw [List.drop_eq_getElem_cons h1, List.drop_eq_getElem_cons h2, coverL]
theorem coverL_end {r : Ty → Ty → Bool} {a : Ty} {ns : List ByteArray} {ys : List Ty} {k : Nat} (h1 : ns.length ≤ k) : coverL r a (ns.drop k) (ys.drop k) = true := by
  rw [List.drop_of_length_le h1]; rfl
set_option maxRecDepth 100000 in
set_option maxHeartbeats 2000000 in
theorem covers_c (fn : Nat) (r : Ty → Ty → Bool) (a b : Ty) (cs cs' : Array Value) (B : Nat) (w : World) (ha : TyC w B a cs) (hb : TyC w B b cs') (hB : B ≤ w.heap.size) (hra : RowsOk a) (hrb : RowsOk b)
    (hfn : ∀ (a : Array Value) (w : World), (callFunc fn a).run Tryz.prog w = .ok (.enter fn a) w)
    (hp : ∀ (x y : Ty) (cx cy : Array Value) (W : World), x ∈ a.subs → y ∈ b.subs → TyC W B x cx → TyC W B y cy → B ≤ W.heap.size → Calls Tryz.prog fn #[.agg cx, .agg cy] W fun e w' => e = .returned (.bool (r x y)) ∧ Below W.heap.size W w') :
    Calls Tryz.prog 226 #[.agg cs, .agg cs', .func (.func fn) #[] #[]] w fun e w' => e = .returned (.bool (coverL r a b.names b.subs)) ∧ Below w.heap.size w w' := by
  obtain ⟨na, nc, sa, sc, f, rfl, -⟩ := ha.inv
  obtain ⟨na', nc', sa', sc', f', rfl, hf', hn', hs', hnc', hsc', hsub'⟩ := hb.inv
  have HA := Lib.hid ha
  have HRA := Lib.hid hra
  have HP := Lib.hid hp
  have HN' := Lib.hid hn'
  have HS' := Lib.hid hs'
  have HU' := Lib.hid hsub'
  have hle := hrb.len
  have hsm := hrb.small
  clear ha hb hp hn' hs' hsub' hra hrb hf'
  go_enter Tryz.func226, Tryz.ntmps226
  simp only [tyCells]
  go_wp2
  go_loopw [14] (fun i wr => ∃ k : Nat, k ≤ b.names.length ∧ i = .int .i64 k ∧ Below w.heap.size w wr ∧ BoxAt wr w.heap.size (tyCells a na nc sa sc) ∧ BoxAt wr (w.heap.size + 1) (tyCells b na' nc' sa' sc') ∧ coverL r a (b.names.drop k) (b.subs.drop k) = coverL r a b.names b.subs) (fun i _ => b.names.length - (intOf i).toNat)
  case atStart => exact ⟨0, Nat.zero_le _, rfl, ((Below.refl _ _).alloc (Nat.le_refl _) _).alloc (by simp) _, (boxes w _ _ _).1, (boxes w _ _ _).2, rfl⟩
  case round =>
    obtain ⟨k, hk, rfl, hacc, hbx, hby, heq⟩ := hrel
    have HQ := Lib.hid heq
    have HX := Lib.hid hbx
    have HY := Lib.hid hby
    have hx1 := hbx.1
    have hx2 := hbx.2
    have hy1 := hby.1
    simp only [tyCells] at hx2
    have hsz := hacc.size
    clear heq hbx hby
    by_cases hlt : k < b.names.length
    · have hlt' : k < b.subs.length := by omega
      rcases HN'.out with hr | ⟨bn, on, rfl, hbn, hc⟩
      · rw [hr] at hlt; simp at hlt
      have hck : wr.cell? ⟨bn, on + k, none⟩ = some (.string b.names[k]) := (hacc.cell (p := ⟨bn, on + k, none⟩) (by simp; omega)).trans (hc k hlt)
      have hdrop := Lib.hid (coverL_drop (r := r) (a := a) hlt hlt')
      clear hc
      go_wp2_with fail
      refine (of_c a b.names[k] _ B _ (HA.out.under (hacc.mono hB)) (Nat.le_trans hB hsz) HRA.out).mono ?_
      rintro e w1 ⟨⟨cx, rfl, hcx⟩, hb1⟩
      have hacc1 : Below w.heap.size w w1 := acc0 hacc hsz hb1
      have hsz1 := hacc1.size
      obtain ⟨xa, xc, ya, yc, g, rfl, -⟩ := hcx.inv
      have HCX := Lib.hid hcx
      clear hcx
      have HY1 := Lib.hid (HY.out.under hb1)
      have HX1 := Lib.hid (HX.out.under hb1)
      have hz1 := HY1.out.1
      have hz2 := HY1.out.2
      have hz3 := HX1.out.1
      simp only [tyCells] at hz2
      cases hm : memB b.names[k] a.names
      · simp only [tyCells]
        go_wp2
        go_quiet (fail)
        go_wp2
        go_ret
        have h := HQ.out
        rw [hdrop.out, hm, Bool.false_and, Bool.false_and] at h
        exact ⟨ret_b h, below_drewN (hacc1.alloc hsz1 _) _⟩
      · have hT : TyC w1 B b.subs[k] (f' k) := (HU'.out k hlt').under (hacc1.mono hB)
        have hnb := BoxAt.new w1 #[.int .i64 (ofT a b.names[k]).kind, .string (ofT a b.names[k]).pkg, .int .i64 (ofT a b.names[k]).major, .string (ofT a b.names[k]).mod, .string (ofT a b.names[k]).name, .slice xa (ofT a b.names[k]).names.length xc, .slice ya (ofT a b.names[k]).subs.length yc] 29
        have hbW : Below w1.heap.size w1 (w1.alloc (.cells #[.int .i64 (ofT a b.names[k]).kind, .string (ofT a b.names[k]).pkg, .int .i64 (ofT a b.names[k]).major, .string (ofT a b.names[k]).mod, .string (ofT a b.names[k]).name, .slice xa (ofT a b.names[k]).names.length xc, .slice ya (ofT a b.names[k]).subs.length yc] 29)) := (Below.refl _ _).alloc (Nat.le_refl _) _
        simp only [tyCells]
        go_wp2
        generalize w1.alloc (.cells #[.int .i64 (ofT a b.names[k]).kind, .string (ofT a b.names[k]).pkg, .int .i64 (ofT a b.names[k]).major, .string (ofT a b.names[k]).mod, .string (ofT a b.names[k]).name, .slice xa (ofT a b.names[k]).names.length xc, .slice ya (ofT a b.names[k]).subs.length yc] 29) = W at hnb hbW ⊢
        have hszW := hbW.size
        have hn1 := hnb.1
        have hn2 := hnb.2
        have hw2 := (HY1.out.under hbW).2
        have hw1 := (HY1.out.under hbW).1
        simp only [tyCells] at hw2
        have hTW : TyC W B b.subs[k] (f' k) := hT.under (hbW.mono (Nat.le_trans hB hsz1))
        have hcW : TyC W B (ofT a b.names[k]) _ := HCX.out.under (hbW.mono (Nat.le_trans hB hsz1))
        obtain ⟨b', o', na2, nc2, sa2, sc2, rfl, hbb', hfk', d0, d1, d2, d3, d4, d5, d6⟩ := TyC.elem (HS'.out.keep fun p hp => (hbW.cell (p := p) (by omega)).trans (hacc1.cell (p := p) (by omega))) hlt' hTW
        have HK' := Lib.hid hfk'
        have hbw : b' < W.heap.size := by omega
        clear hfk'
        go_still_tail 10, (by kernel_rfl)
        change wpList _ _ _ _ _ W.drew
        go_wp2_with fail
        have hcall := HP.out (ofT a b.names[k]) b.subs[k] _ _ W.drew (ofT_mem hm HRA.out.len) (List.getElem_mem hlt')
          (hcW.keep fun _ _ => rfl) (hTW.keep fun _ _ => rfl) (by simp; omega)
        rw [HK'.out] at hcall
        refine hcall.mono ?_
        clear hcall
        rintro e w2 ⟨rfl, hb2⟩
        have hb3 : Below w1.heap.size w1 w2 := (hbW.drew).trans (hb2.mono (by simp; omega))
        have hacc2 : Below w.heap.size w w2 := acc0 hacc1 hsz1 hb3
        cases hx : r (ofT a b.names[k]) b.subs[k]
        · go_wp2
          go_ret
          have h := HQ.out
          rw [hdrop.out, hm, hx, Bool.and_false, Bool.false_and] at h
          exact ⟨ret_b h, hacc2⟩
        · go_wp2
          have h := HQ.out
          rw [hdrop.out, hm, hx, Bool.true_and, Bool.true_and] at h
          first
            | exact ⟨⟨k + 1, by omega, by go_num, hacc2, HX1.out.under hb3, HY1.out.under hb3, h⟩, by simp [intOf]; omega⟩
            | (go_roundw
               case rel => exact ⟨k + 1, by omega, by go_num, hacc2, HX1.out.under hb3, HY1.out.under hb3, h⟩
               case measure => simp [intOf]; omega)
    · go_wp2
      go_ret
      have h := HQ.out
      rw [coverL_end (by omega)] at h
      exact ⟨ret_b h, hacc⟩
end Go.Proofs.YtjeldfipipkfiaaGreatDoor
