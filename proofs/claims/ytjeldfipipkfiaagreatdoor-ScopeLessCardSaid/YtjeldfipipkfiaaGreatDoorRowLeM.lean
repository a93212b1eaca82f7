/- The statement ScopeLess: for any module the law returns true and leaves its argument as it was; the premise: errors.errorType is as the program lays it (the card ties this). -/
import Derived.Test.YtjeldfipipkfiaaGreatDoorUp7
import Derived.Test.YtjeldfipipkfiaaGreatDoorCpM
import Derived.Test.YtjeldfipipkfiaaGreatDoorModS
import Derived.Test.YtjeldfipipkfiaaGreatDoorRows
import Derived.Test.YtjeldfipipkfiaaGreatDoorCards
import Derived.Test.YtjeldfipipkfiaaGreatDoorTie
import Derived.Test.YtjeldfipipkfiaaGreatDoorOpenAll
import Derived.ProofKit
import Derived.OpenShut
import Derived.ShutString
import Derived.ChangeOld
import Derived.Below
import Derived.Deep.Slices
import Derived.Deep.Fields
import Derived.ChangeSame
import Derived.ChangeVars
import Derived.ChangeMaps
import Derived.JoinedOf
import Derived.LaidLaws
import Derived.LaidHandle
import Derived.HandedShaped
import Derived.Lib.LaidTab
import Derived.Stop.LaidErr
import Derived.Stop.Joined
import Derived.Deep.DeepLaidRun
import Derived.Deep.DeepHandedRow
import Derived.SevenTiedAt
namespace Go.Proofs.YtjeldfipipkfiaaGreatDoor
open Go.RowKit
set_option linter.unusedSimpArgs false
set_option linter.unusedVariables false
set_option linter.unnecessarySimpa false
theorem RL.nilS (a : Value) (w : World) : (binOp .eql 34 (.iface 93 a) .nilIface).run Tryz.prog w = .ok (.bool false) w := by kernel_rfl
theorem RL.nilN (w : World) : (binOp .eql 34 .nilIface .nilIface).run Tryz.prog w = .ok (.bool true) w := by kernel_rfl
theorem err_nil {w : World} {v : Value} {r : Option (Int × Option Nat)} (h : ErrAt w v r) (W : World) : (binOp .eql 34 v .nilIface).run Tryz.prog W = .ok (.bool r.isNone) W := by
  match r, h with
  | none, h => obtain rfl := h; exact RL.nilN W
  | some (c, none), h => obtain rfl := h; exact RL.nilC c W
  | some (c, some i), h => obtain ⟨b, rfl, -⟩ := h; exact RL.nilS _ W
theorem err_form {w : World} {v : Value} {r : Option (Int × Option Nat)} (h : ErrAt w v r) : (r.isNone = true ∧ v = .nilIface) ∨ (∃ c : Int, r.isNone = false ∧ v = .iface 70 (.int .i64 c)) ∨ (∃ b : Nat, r.isNone = false ∧ v = .iface 93 (.pointer (some ⟨b, 0, none⟩))) := by
  match r, h with
  | none, h => exact .inl ⟨rfl, h⟩
  | some (c, none), h => exact .inr (.inl ⟨c, rfl, h⟩)
  | some (c, some i), h => obtain ⟨b, h, -⟩ := h; exact .inr (.inr ⟨b, rfl, h⟩)
theorem DclsAt.drop {w : World} {B b o : Nat} {l : List Dcl} (h : DclsAt w B (some ⟨b, o, none⟩) l) (k : Nat) : DclsAt w B (some ⟨b, o + k * 9, none⟩) (l.drop k) := by
  obtain ⟨f, h1, h2⟩ := h
  refine ⟨fun i => f (k + i), ?_, fun i hi => ?_⟩
  · rcases h1 with h1 | ⟨b', o', hA, hb, hc⟩
    · exact .inl (by rw [List.length_drop]; omega)
    · cases hA
      refine .inr ⟨b, o + k * 9, rfl, hb, fun i hi j hj => ?_⟩
      rw [List.length_drop] at hi
      have := hc (k + i) (by omega) j hj
      rw [← this]
      congr 2
      rw [Nat.add_mul]; omega
  · rw [List.getElem_drop]
    exact h2 (k + i) (by rw [List.length_drop] at hi; omega)
theorem DclC.size {w : World} {B : Nat} {n : Dcl} {cs : Array Value} (h : DclC w B n cs) : cs.size = 9 := by
  obtain ⟨-, na, nc, sa, sc, rfl, -⟩ := h; rfl
theorem DclC.one {w : World} {B : Nat} {n : Dcl} {cs : Array Value} (h : DclC w B n cs) : ∀ u ∈ cs.toList, u.oneCell' = true := by
  obtain ⟨-, na, nc, sa, sc, rfl, -⟩ := h
  simp [dclCells, Value.oneCell']
/-- two rows, one behind the other, in memory of the call's own -/
theorem dcls_cat {w : World} {base B n1 n2 : Nat} {v : Value} {l1 l2 : List Dcl} {f1 f2 : Nat → Array Value} (e1 : l1.length = n1) (e2 : l2.length = n2) (h : w.ownsRow base 45 9 v (n1 + n2) (flatK f1 n1 ++ flatK f2 n2))
    (h1 : ∀ i (h : i < l1.length), DclC w B l1[i] (f1 i)) (h2 : ∀ i (h : i < l2.length), DclC w B l2[i] (f2 i)) (hB : B ≤ w.heap.size) : ∃ A c, v = .slice A (l1 ++ l2).length c ∧ (l1 ++ l2).length ≤ c ∧ DclsAt w w.heap.size A (l1 ++ l2) := by
  subst e1 e2
  rw [flatK_app] at h
  have hz : ∀ i, i < l1.length + l2.length → ((fun i => if i < l1.length then f1 i else f2 (i - l1.length)) i).size = 9 := fun i hi => by
    by_cases e : i < l1.length
    · simp only [if_pos e]; exact (h1 i e).size
    · simp only [if_neg e]; exact (h2 (i - l1.length) (by omega)).size
  obtain ⟨A, c, e1, e2, e3⟩ := own_rows h hz
  rw [← List.length_append] at e1 e2 e3
  refine ⟨A, c, e1, e2, _, e3, fun i hi => ?_⟩
  rw [List.length_append] at hi
  by_cases e : i < l1.length
  · rw [List.getElem_append_left e]
    simp only [if_pos e]
    exact (h1 i e).mono hB
  · rw [List.getElem_append_right (by omega)]
    simp only [if_neg e]
    exact (h2 (i - l1.length) (by omega)).mono hB
set_option maxRecDepth 100000 in
set_option maxHeartbeats 40000000 in
theorem scopeTurns_c (m : Mdl) (ia : Option Addr) (ic : Nat) (da : Option Addr) (dc : Nat) (at_ : Int) (w : World) (hm : MdlC w w.heap.size m ia ic da dc) (hg : HandleE w) (ha1 : -9223372036854775808 ≤ at_) (ha2 : at_ ≤ 9223372036854775807) :
    Calls Tryz.prog 4 #[.agg (mdlCells m ia ic da dc), .int .i64 at_] w fun e w' => e = .returned (.bool true) ∧ Below w.heap.size w w' := by
  have HM := Lib.hid hm
  have HG := Lib.hid hg
  have hup := fun W (hb : Below w.heap.size w W) => up7_c W (hg.under hb)
  have hfe := fun W (hb : Below w.heap.size w W) => fewM_c m ia ic da dc w.heap.size W (hm.under hb) hb.size
  have hcp := fun W (hb : Below w.heap.size w W) hf => copyM_c m ia ic da dc w.heap.size W (hm.under hb) hb.size hf
  have hck := fun W (hb : Below w.heap.size w W) => check_c m ia ic da dc w.heap.size W (hm.under hb) hb.size
  simp only [mdlCells] at hfe hcp hck ⊢
  have HUP := Lib.hid hup
  have HFE := Lib.hid hfe
  have HCP := Lib.hid hcp
  have HCK := Lib.hid hck
  clear hup hfe hcp hck hm hg
  go_enter Tryz.func4, Tryz.ntmps4
  go_upto_region 1 with fail
  obtain ⟨b1, hb1, hz1⟩ := laidN w #[.string m.name, .slice ia m.imps.length ic, .slice da m.decls.length dc] 25
  generalize w.alloc (.cells #[.string m.name, .slice ia m.imps.length ic, .slice da m.decls.length dc] 25) = W1 at b1 hb1 hz1 ⊢
  have D1 := Lib.hid b1
  have B1 := Lib.hid hb1
  clear b1 hb1
  obtain ⟨q, hq⟩ : ∃ q, fewM m = q := ⟨_, rfl⟩
  simp only [hq] at HFE HCP
  go_upto_region 3 with (first
    | (go_at_call 12; refine (HUP.out _ B1.out).mono ?_; rintro e W2 ⟨rfl, hb⟩; have B2 := Lib.hid (B1.out.trans (hb.mono B1.out.size)); have d2 := D1.out.under hb D1.out.lt; have D2 := Lib.hid d2; obtain ⟨x0, x1, x2⟩ := cellsT3 d2; have l2 := d2.lt; clear hb d2)
    | (go_at_call 13; refine (HFE.out _ B2.out).mono ?_; rintro e W3 ⟨rfl, hb⟩; have B3 := Lib.hid (B2.out.trans (hb.mono B2.out.size)); have d3 := D2.out.under hb D2.out.lt; have D3 := Lib.hid d3; clear hb x0 x1 x2 l2; obtain ⟨x0, x1, x2⟩ := cellsT3 d3; have l2 := d3.lt; clear d3))
  cases q
  · go_wp2_with fail
    go_ret
    exact ⟨rfl, B3.out⟩
  by_cases h0 : m.decls.length = 0
  · have h0I : (m.decls.length : Int) = 0 := by omega
    have h0b : ((m.decls.length : Int) == 0) = true := by rw [h0I]; rfl
    clear h0 h0I
    go_wp2_with fail
    go_ret
    exact ⟨rfl, B3.out⟩
  have h0b : ((m.decls.length : Int) == 0) = false := by simpa using h0
  have hfw := hq
  simp only [fewM, Bool.and_eq_true, decide_eq_true_eq, List.all_eq_true] at hfw
  obtain ⟨-, hl1, hl2, -⟩ := hfw
  have hn0 : (0 : Int) < (m.decls.length : Int) := by omega
  have hnne : (m.decls.length : Int) ≠ 0 := by omega
  clear hq
  go_upto_if 24 with fail
  go_cut [1] (fun v wx => ∃ a : Int, v = .int .i64 a ∧ 0 ≤ a ∧ a ≤ 9223372036854775807 ∧ wx = W3)
  case first =>
    by_cases hneg : at_ < 0
    · go_wp2_with fail
      go_meet
      exact ⟨-(at_ + 1), by go_num, by omega, by omega, rfl⟩
    · go_wp2_with fail
      go_meet
      exact ⟨at_, rfl, by omega, by omega, rfl⟩
  case rest =>
    obtain ⟨a, rfl, ha1, ha2, rfl⟩ := hcut
    have hk1 : 0 ≤ a % (m.decls.length : Int) := Int.emod_nonneg _ hnne
    have hk2 : a % (m.decls.length : Int) < m.decls.length := Int.emod_lt_of_pos _ hn0
    obtain ⟨k, hkk⟩ : ∃ k : Nat, a % (m.decls.length : Int) = (k : Int) := ⟨(a % (m.decls.length : Int)).toNat, by omega⟩
    rename World => W3
    go_upto_region 8 with fail
    rw [hkk] at hk2
    simp only [hkk]
    have hkI : (k : Int) < (m.decls.length : Int) := hk2
    have hk0 : (0 : Int) ≤ (k : Int) := by omega
    have hkn : k < m.decls.length := by omega
    clear hk1 hk2 hkk ha1 ha2
    go_upto_region 9 with (go_at_call 22; refine (HCP.out _ B3.out rfl).mono ?_; rintro e W4 ⟨ia', ic', da', dc', rfl, hm4, hb⟩; have HM4 := Lib.hid hm4; have B4 := Lib.hid (B3.out.trans (hb.mono B3.out.size)); have D4 := Lib.hid (D3.out.under hb D3.out.lt); clear hb hm4 x0 x1 x2 l2)
    obtain ⟨fd, hrow, hels⟩ := HM4.out.decls
    obtain ⟨b, o, hda, hbw⟩ : ∃ b o, da' = some ⟨b, o, none⟩ ∧ b < W4.heap.size := by
      rcases hrow with h | ⟨b, o, h1, h2, -⟩
      · omega
      · exact ⟨b, o, h1, h2⟩
    obtain rfl := hda
    have hcap := HM4.out.dcap
    have hcapI : (m.decls.length : Int) ≤ (dc' : Int) := by omega
    have hkcI : (k : Int) ≤ (dc' : Int) := by omega
    have hkd : ¬ dc' = k := by omega
    have hkle : (k : Int) ≤ (m.decls.length : Int) := by omega
    obtain ⟨b5, hb5, hz5⟩ := laidN W4 #[.string m.name, .slice ia' m.imps.length ic', .slice (some ⟨b, o, none⟩) m.decls.length dc'] 25
    generalize W4.alloc (.cells #[.string m.name, .slice ia' m.imps.length ic', .slice (some ⟨b, o, none⟩) m.decls.length dc'] 25) = W5 at b5 hb5 hz5 ⊢
    have HM5 := Lib.hid (HM4.out.under hb5)
    have B5 := Lib.hid (B4.out.trans (hb5.mono B4.out.size))
    have D5 := Lib.hid (D4.out.under hb5 D4.out.lt)
    have N5 := Lib.hid b5
    have HB45 := Lib.hid hb5
    have x2 := b5.cell 2
    simp at x2
    have l5 := b5.lt
    clear hb5 b5 hrow hels fd hcap hz5
    obtain ⟨f1, r1, el1⟩ := HM5.out.decls.drop k
    obtain ⟨f2, r2, el2⟩ := HM5.out.decls.take k
    have e1 : (m.decls.drop k).length = m.decls.length - k := List.length_drop ..
    have e2 : (m.decls.take k).length = k := by rw [List.length_take]; omega
    have S1 := Lib.hid (rows_src (by decide) r1 (fun i h => (el1 i h).size))
    have S2 := Lib.hid (rows_src (by decide) r2 (fun i h => (el2 i h).size))
    have L1 := Lib.hid (flatK_len (K := 9) (f := f1) (n := (m.decls.drop k).length) (fun i h => (el1 i h).size))
    have L2 := Lib.hid (flatK_len (K := 9) (f := f2) (n := (m.decls.take k).length) (fun i h => (el2 i h).size))
    have O1 := Lib.hid (flatK_one (K := 9) (f := f1) (n := (m.decls.drop k).length) (fun i h => (el1 i h).one))
    have O2 := Lib.hid (flatK_one (K := 9) (f := f2) (n := (m.decls.take k).length) (fun i h => (el2 i h).one))
    have EL1 := Lib.hid el1
    have EL2 := Lib.hid el2
    have E1 := Lib.hid e1
    have E2 := Lib.hid e2
    rw [e1] at S1 L1 O1
    rw [e2] at S2 L2 O2
    obtain ⟨i0, hi, hz0, hzz1, hzz2⟩ := info_parts infoDcl
    clear r1 r2 el1 el2 e1 e2
    go_upto_region 9 with fail
    refine wp_region_until [(5, fun w' => w'.cell? ⟨W4.heap.size, 2, none⟩ = some (.slice (some ⟨b, o, none⟩) m.decls.length dc')), (10, fun w' => w'.cell? ⟨W4.heap.size, 2, none⟩ = some (.slice (some ⟨b, o, none⟩) m.decls.length dc'))] (by kernel_rfl) (Until.cons (fun _ => x2) (Until.cons (fun _ => x2) Until.nil)) (fun hU => ?_)
    refine AnyU.take (i := 1) (v := ?_) rfl (by kernel_rfl) (by kernel_rfl) (by kernel_rfl) (fun _ _ _ h => h) (by kernel_rfl) (by assumption) (by rfl) ?_ (fun hV => ?_)
    rotate_left 1
    · (intro wq; go_simp; try with_reducible rfl)
    clear hU
    have hU := hV
    clear hV
    try simp only [Act.put, List.getElem_toArray, List.getElem_cons_zero, List.getElem_cons_succ, List.setIfInBounds_toArray, List.set_cons_zero, List.set_cons_succ]
    refine AnyU.loadc (i := 2) (d := 5) [4, 5] (Si := fun w' => w'.cell? ⟨W4.heap.size, 2, none⟩ = some (.slice (some ⟨b, o, none⟩) m.decls.length dc')) (v := ?_) rfl (by kernel_rfl) (by kernel_rfl) (by kernel_rfl) (fun _ _ _ h => h) (by kernel_rfl) (by assumption) (by kernel_rfl) rfl (by simp) (by rfl) ?_ (fun hV => ?_)
    rotate_left 1
    · (intro wq hq; go_simp; try with_reducible rfl)
    clear hU
    have hU := hV
    clear hV
    try simp only [Act.put, List.getElem_toArray, List.getElem_cons_zero, List.getElem_cons_succ, List.setIfInBounds_toArray, List.set_cons_zero, List.set_cons_succ]
    refine AnyU.take (i := 3) (v := ?_) rfl (by kernel_rfl) (by kernel_rfl) (by kernel_rfl) (fun _ _ _ h => h) (by kernel_rfl) (by assumption) (by rfl) ?_ (fun hV => ?_)
    rotate_left 1
    · (intro wq; go_simp; try with_reducible rfl)
    clear hU
    have hU := hV
    clear hV
    try simp only [Act.put, List.getElem_toArray, List.getElem_cons_zero, List.getElem_cons_succ, List.setIfInBounds_toArray, List.set_cons_zero, List.set_cons_succ]
    refine AnyU.take (i := 4) (v := ?_) rfl (by kernel_rfl) (by kernel_rfl) (by kernel_rfl) (fun _ _ _ h => h) (by kernel_rfl) (by assumption) (by rfl) ?_ (fun hV => ?_)
    rotate_left 1
    · (intro wq; go_simp; try with_reducible rfl)
    clear hU
    have hU := hV
    clear hV
    try simp only [Act.put, List.getElem_toArray, List.getElem_cons_zero, List.getElem_cons_succ, List.setIfInBounds_toArray, List.set_cons_zero, List.set_cons_succ]
    refine AnyU.take (i := 6) (v := ?_) rfl (by kernel_rfl) (by kernel_rfl) (by kernel_rfl) (fun _ _ _ h => h) (by kernel_rfl) (by assumption) (by rfl) ?_ (fun hV => ?_)
    rotate_left 1
    · (intro wq; go_simp; try with_reducible rfl)
    clear hU
    have hU := hV
    clear hV
    try simp only [Act.put, List.getElem_toArray, List.getElem_cons_zero, List.getElem_cons_succ, List.setIfInBounds_toArray, List.set_cons_zero, List.set_cons_succ]
    refine AnyU.loadc (i := 7) (d := 10) [9, 10] (Si := fun w' => w'.cell? ⟨W4.heap.size, 2, none⟩ = some (.slice (some ⟨b, o, none⟩) m.decls.length dc')) (v := ?_) rfl (by kernel_rfl) (by kernel_rfl) (by kernel_rfl) (fun _ _ _ h => h) (by kernel_rfl) (by assumption) (by kernel_rfl) rfl (by simp) (by rfl) ?_ (fun hV => ?_)
    rotate_left 1
    · (intro wq hq; go_simp; try with_reducible rfl)
    clear hU
    have hU := hV
    clear hV
    try simp only [Act.put, List.getElem_toArray, List.getElem_cons_zero, List.getElem_cons_succ, List.setIfInBounds_toArray, List.set_cons_zero, List.set_cons_succ]
    refine AnyU.take (i := 8) (v := ?_) rfl (by kernel_rfl) (by kernel_rfl) (by kernel_rfl) (fun _ _ _ h => h) (by kernel_rfl) (by assumption) (by rfl) ?_ (fun hV => ?_)
    rotate_left 1
    · (intro wq; go_simp; try with_reducible rfl)
    clear hU
    have hU := hV
    clear hV
    try simp only [Act.put, List.getElem_toArray, List.getElem_cons_zero, List.getElem_cons_succ, List.setIfInBounds_toArray, List.set_cons_zero, List.set_cons_succ]
    refine AnyU.take (i := 9) (v := ?_) rfl (by kernel_rfl) (by kernel_rfl) (by kernel_rfl) (fun _ _ _ h => h) (by kernel_rfl) (by assumption) (by rfl) ?_ (fun hV => ?_)
    rotate_left 1
    · (intro wq; go_simp; try with_reducible rfl)
    clear hU
    have hU := hV
    clear hV
    try simp only [Act.put, List.getElem_toArray, List.getElem_cons_zero, List.getElem_cons_succ, List.setIfInBounds_toArray, List.set_cons_zero, List.set_cons_succ]
    try rw [if_neg hkd]
    refine AnyU.ready1 (i := 0) (by kernel_rfl) (AnyU.one rfl fun K hK => ?_)
    go_simp
    obtain ⟨hbk, hbX, hsX⟩ := laidD W5 #[] 45
    have hoX : (W5.alloc (.cells #[] 45)).drew.ownsRow W5.heap.size 45 9 (.slice (some ⟨W5.heap.size, 0, none⟩) 0 0) 0 [] := World.ownsRow_lit (base := W5.heap.size) (e := 45) (size := 9) W5 #[] 0 (Nat.le_refl _) (by unfold maxLen; omega) rfl
    generalize hX3 : (W5.alloc (.cells #[] 45)).drew = X at hbk hbX hsX hoX ⊢
    clear hX3 hbk
    have x2 := (hbX.cell (p := ⟨W4.heap.size, 2, none⟩) l5).trans x2
    have lX : W4.heap.size < X.heap.size := by omega
    have HBX := Lib.hid hbX
    have HOX := Lib.hid hoX
    have S1X := Lib.hid (fun j u hj => (hbX.cell (p := (⟨b, o + k * 9, none⟩ : Addr).add j) (by rw [addN]; show b < W5.heap.size; omega)).trans (S1.out j u hj))
    have S2X := Lib.hid (fun j u hj => (hbX.cell (p := (⟨b, o, none⟩ : Addr).add j) (by rw [addN]; show b < W5.heap.size; omega)).trans (S2.out j u hj))
    clear hbX hoX
    refine hK.out _ _ (Until.cons (fun _ => x2) (Until.cons (fun _ => x2) Until.nil)) (fun hV => ?_)
    clear hK K
    clear hU
    have hU := hV
    clear hV
    try simp only [Act.put, List.getElem_toArray, List.getElem_cons_zero, List.getElem_cons_succ, List.setIfInBounds_toArray, List.set_cons_zero, List.set_cons_succ]
    refine AnyU.ready1 (i := 5) (by kernel_rfl) (AnyU.one rfl fun K hK => ?_)
    refine step_append_own2 rfl _ _ 23 rfl W5.heap.size 45 i0 (.agg #[.int .i64 0, .string { data := #[] }, .int .i64 0, .string { data := #[] }, .int .i64 0, .string { data := #[] }, .string { data := #[] }, .slice none 0 0, .slice none 0 0]) 9 136 Tryz.underlying23 hi hz0 hzz1 hzz2 rfl (by decide) (.slice (some ⟨W5.heap.size, 0, none⟩) 0 0) 0 [] rfl HOX.out ⟨b, o + k * 9, none⟩ (m.decls.length - k) (dc' - k) (flatK f1 (m.decls.length - k)) rfl L1.out S1X.out O1.out (by unfold maxLen; omega) (by omega) (by omega) ?_
    intro v1 w1 hown1 hg1 hfr1
    simp only [Nat.zero_add, List.nil_append] at hown1
    have hne1 : ∀ q, q < W5.heap.size → some q ≠ (Value.slice (some ⟨W5.heap.size, 0, none⟩) 0 0).ownBlock := fun q hq e => by
      have e : q = W5.heap.size := by simpa [Value.ownBlock] using e
      omega
    have x2 := (hg1.cell_far ⟨W4.heap.size, 2, none⟩ lX (hne1 _ l5)).trans x2
    have S2W := Lib.hid (fun j u hj => (hg1.cell_far ((⟨b, o, none⟩ : Addr).add j) (by rw [addN]; show b < X.heap.size; omega) (hne1 _ (by rw [addN]; show b < W5.heap.size; omega))).trans (S2X.out j u hj))
    have HG1 := Lib.hid hg1
    have HO1 := Lib.hid hown1
    have hs1 := hg1.size
    clear hown1 hg1 hfr1 hne1
    refine hK.out _ _ (Until.cons (fun h => absurd h (by decide)) (Until.cons (fun _ => x2) Until.nil)) (fun hV => ?_)
    clear hK K
    clear hU
    have hU := hV
    clear hV
    try simp only [Act.put, List.getElem_toArray, List.getElem_cons_zero, List.getElem_cons_succ, List.setIfInBounds_toArray, List.set_cons_zero, List.set_cons_succ]
    refine AnyU.ready1 (i := 10) (by kernel_rfl) (AnyU.one rfl fun K hK => ?_)
    refine step_append_own2 rfl _ _ 23 rfl W5.heap.size 45 i0 (.agg #[.int .i64 0, .string { data := #[] }, .int .i64 0, .string { data := #[] }, .int .i64 0, .string { data := #[] }, .string { data := #[] }, .slice none 0 0, .slice none 0 0]) 9 136 Tryz.underlying23 hi hz0 hzz1 hzz2 rfl (by decide) v1 (m.decls.length - k) (flatK f1 (m.decls.length - k)) rfl HO1.out ⟨b, o, none⟩ k dc' (flatK f2 k) rfl L2.out S2W.out O2.out (by unfold maxLen; omega) (by omega) (by omega) ?_
    intro v2 w2 hown2 hg2 hfr2
    have hlo1 : ∀ q, v1.ownBlock = some q → W5.heap.size ≤ q := fun q hq => (owns_lt HO1.out hq).1
    have hbW : Below W5.heap.size W5 w2 := (HBX.out.grown HG1.out HBX.out.size (fun q hq => by
      have hq : W5.heap.size = q := by simpa [Value.ownBlock] using hq
      omega)).grown hg2 (by omega) hlo1
    have hN2 := N5.out.under hbW N5.out.lt
    have hLL : ∃ L, m.decls.drop k ++ m.decls.take k = L := ⟨_, rfl⟩
    obtain ⟨L, hL⟩ := hLL
    have hE1 : ∀ i (h : i < (m.decls.drop k).length), DclC w2 W4.heap.size (m.decls.drop k)[i] (f1 i) := fun i hi => (EL1.out i hi).keep fun p hp => hbW.cell (by omega)
    have hE2 : ∀ i (h : i < (m.decls.take k).length), DclC w2 W4.heap.size (m.decls.take k)[i] (f2 i) := fun i hi => (EL2.out i hi).keep fun p hp => hbW.cell (by omega)
    have hcat := dcls_cat E1.out E2.out hown2 hE1 hE2 (by have := hbW.size; omega)
    rw [hL] at hcat
    obtain ⟨A, c, rfl, -, -⟩ := hcat
    have x2' := hN2.cell 2
    have y2' := hN2.free 2
    have l2' := hN2.lt
    simp at x2'
    have HO2 := Lib.hid hown2
    have HBW := Lib.hid hbW
    have HN2 := Lib.hid hN2
    have HL := Lib.hid hL
    have HE1 := Lib.hid hE1
    have HE2 := Lib.hid hE2
    clear hown2 hg2 hfr2 hlo1 hbW hN2 hL hE1 hE2 x2
    refine hK.out _ _ (Until.offT (by kernel_rfl)) (fun hV => ?_)
    clear hK K
    clear hU
    have hU := hV
    clear hV
    try simp only [Act.put, List.getElem_toArray, List.getElem_cons_zero, List.getElem_cons_succ, List.setIfInBounds_toArray, List.set_cons_zero, List.set_cons_succ]
    refine AnyU.take (i := 11) (v := ?_) rfl (by kernel_rfl) (by kernel_rfl) (by kernel_rfl) (fun _ _ _ h => h) (by kernel_rfl) (by assumption) (by rfl) ?_ (fun hV => ?_)
    rotate_left 1
    · (intro wq; go_simp; try with_reducible rfl)
    clear hU
    have hU := hV
    clear hV
    try simp only [Act.put, List.getElem_toArray, List.getElem_cons_zero, List.getElem_cons_succ, List.setIfInBounds_toArray, List.set_cons_zero, List.set_cons_succ]
    refine AnyU.ready1 (i := 12) (by kernel_rfl) (AnyU.one rfl fun K hK => ?_)
    go_simp
    have hbf : Below W4.heap.size W5 (w2.setCell ⟨W4.heap.size, 2, none⟩ (.slice A L.length c)) := (HBW.out.mono (Nat.le_of_lt N5.out.lt)).setCell (p := ⟨W4.heap.size, 2, none⟩) (Nat.le_refl _) _
    have hof := owns_keep (w' := w2.setCell ⟨W4.heap.size, 2, none⟩ (.slice A L.length c)) HO2.out fun g hg => Below.heap_setCell w2 ⟨W4.heap.size, 2, none⟩ (.slice A L.length c) g (by have := (owns_lt HO2.out hg).1; show g ≠ W4.heap.size; omega)
    have hnf : Blk (w2.setCell ⟨W4.heap.size, 2, none⟩ (.slice A L.length c)) W4.heap.size #[.string m.name, .slice ia' m.imps.length ic', .slice A L.length c] 25 := by have := HN2.out.set 2 (.slice A L.length c); simpa using this
    have hd1 : Blk (w2.setCell ⟨W4.heap.size, 2, none⟩ (.slice A L.length c)) w.heap.size #[.string m.name, .slice ia m.imps.length ic, .slice da m.decls.length dc] 25 := (D5.out.under HBW.out D5.out.lt).far _ _ (by have := D4.out.lt; show w.heap.size ≠ W4.heap.size; omega)
    generalize w2.setCell ⟨W4.heap.size, 2, none⟩ (.slice A L.length c) = Wf at hbf hof hnf hd1 ⊢
    refine hK.out _ _ (Until.offT (by kernel_rfl)) (fun hV => ?_)
    clear hK K
    clear hU
    have hU := hV
    clear hV
    try simp only [Act.put, List.getElem_toArray, List.getElem_cons_zero, List.getElem_cons_succ, List.setIfInBounds_toArray, List.set_cons_zero, List.set_cons_succ]
    refine AnyU.done (by kernel_rfl) ?_
    clear hU x2' y2' l2'
    have BF := Lib.hid (B4.out.trans ((HB45.out.trans (hbf.mono (Nat.le_refl _))).mono B4.out.size))
    have hcat := dcls_cat E1.out E2.out hof (fun i hi => (EL1.out i hi).keep fun p hp => hbf.cell hp) (fun i hi => (EL2.out i hi).keep fun p hp => hbf.cell hp) (by have := hbf.size; omega)
    rw [HL.out] at hcat
    obtain ⟨A2, c2, hcc, hlc, hdf⟩ := hcat
    cases hcc
    have hL2 : L.length = m.decls.length := by rw [← HL.out, List.length_append, E1.out, E2.out]; omega
    have hm2 : MdlC Wf Wf.heap.size ⟨m.name, m.imps, L⟩ ia' ic' A c := ⟨HM5.out.name, (HM5.out.imps.keep fun p hp => hbf.cell hp).mono (by have := hbf.size; omega), hdf, HM5.out.nImps, by show L.length ≤ maxLen; rw [hL2]; exact HM5.out.nDecls, HM5.out.icap, hlc⟩
    have hck2 := fun W (hb : Below Wf.heap.size Wf W) => check_c ⟨m.name, m.imps, L⟩ ia' ic' A c Wf.heap.size W (hm2.under hb) hb.size
    simp only [mdlCells] at hck2
    have HCK2 := Lib.hid hck2
    have hturn : (checkF m).isNone = (checkF ⟨m.name, m.imps, L⟩).isNone := by
      have h := turnsC (m := m) (m' := ⟨m.name, m.imps, L⟩) rfl rfl (by
        show m.decls.Perm L
        rw [← HL.out]
        have := List.perm_append_comm (l₁ := m.decls.take k) (l₂ := m.decls.drop k)
        rwa [List.take_append_drop] at this)
      rw [Bool.eq_iff_iff, Option.isNone_iff_eq_none, Option.isNone_iff_eq_none]
      exact h
    have HT := Lib.hid hturn
    have NF := Lib.hid hnf
    obtain ⟨x0, x1, x2⟩ := cellsT3 hd1
    have l1 := hd1.lt
    clear hck2 hturn hbf hof hnf hd1 hm2 hdf hlc hL2
    go_upto_region 12 with (first
      | (go_at_call 15; have hno := BG; refine (HCK2.out _ BG2.out).mono ?_; rintro e Wh ⟨v4, rfl, he4, hb⟩; have HE4 := Lib.hid he4; have BH := Lib.hid (BG.out.trans (hb.mono BG.out.size)); clear hb he4 y0 y1 y2 l3 hno)
      | (go_at_call 15; refine (HCK.out _ BF.out).mono ?_; rintro e Wg ⟨v3, rfl, he3, hb⟩; have HE3 := Lib.hid he3; have BG := Lib.hid (BF.out.trans (hb.mono BF.out.size)); have BG2 := Lib.hid hb; have nf := NF.out.under hb NF.out.lt; clear hb he3 x0 x1 x2 l1; obtain ⟨y0, y1, y2⟩ := cellsT3 nf; have l3 := nf.lt; clear nf))
    have lN := RL.nilN
    have lC := RL.nilC
    have lS := RL.nilS
    have hT := HT.out
    rcases err_form HE3.out with ⟨n3, rfl⟩ | ⟨c3, n3, rfl⟩ | ⟨b3, n3, rfl⟩ <;> rcases err_form HE4.out with ⟨n4, rfl⟩ | ⟨c4, n4, rfl⟩ | ⟨b4, n4, rfl⟩
    all_goals rw [n3, n4] at hT
    all_goals first
      | (exfalso; exact absurd hT (by decide))
      | (clear hT n3 n4; go_quiet (fail); go_wp2_with fail; go_ret; exact ⟨rfl, below_drewN BH.out _⟩)
end Go.Proofs.YtjeldfipipkfiaaGreatDoor
namespace Go.Proofs.YtjeldfipipkfiaaGreatDoor
open Go.RowKit
set_option linter.unusedSimpArgs false
set_option linter.unusedVariables false
set_option linter.unnecessarySimpa false
theorem RL.nnilC (a : Int) (w : World) : (binOp .neq 34 (.iface 70 (.int .i64 a)) .nilIface).run Tryz.prog w = .ok (.bool true) w := by kernel_rfl
theorem RL.nnilS (a : Value) (w : World) : (binOp .neq 34 (.iface 93 a) .nilIface).run Tryz.prog w = .ok (.bool true) w := by kernel_rfl
theorem RL.nnilN (w : World) : (binOp .neq 34 .nilIface .nilIface).run Tryz.prog w = .ok (.bool false) w := by kernel_rfl
theorem checkF_range (m : Mdl) : ∀ c p, checkF m = some (c, p) → 1 ≤ c ∧ c ≤ 12 := by
  intro c p h
  rw [checkF] at h
  split at h
  · rw [Option.map_eq_some_iff] at h
    obtain ⟨⟨c', i⟩, h1, h2⟩ := h
    injection h2 with h3 h4
    subst h3
    rw [amissF] at h1
    split at h1
    · injection h1 with h1; injection h1 with h1 h2; rw [← h1]; constructor <;> simp
    · obtain ⟨c, hc, hm⟩ := List.exists_of_findSome?_eq_some h1
      rw [Option.map_eq_some_iff] at hm
      obtain ⟨k, _, he⟩ := hm
      injection he with h1 h2
      subst h1
      simp [codes4] at hc
      rcases hc with rfl | rfl | rfl | rfl <;> constructor <;> simp
  · injection h with h; injection h with h1 h2; rw [← h1]; decide
/-- between the rounds: g the box of the module that grows -/
structure LeR (m : Mdl) (W0 wr : World) (B g : Nat) (iv sv : Value) (F : List (Array Value)) (L : List Dcl) : Prop where
  box : Blk wr g #[.string m.name, iv, sv] 25
  row : RowD wr W0.heap.size (fun b => b < B) sv L F
  fr : Below g W0 wr
set_option maxRecDepth 100000 in
set_option maxHeartbeats 40000000 in
theorem scopeLess_c (m : Mdl) (ia : Option Addr) (ic : Nat) (da : Option Addr) (dc : Nat) (w : World) (hm : MdlC w w.heap.size m ia ic da dc) (hg : HandleE w) :
    Calls Tryz.prog 5 #[.agg (mdlCells m ia ic da dc)] w fun e w' => e = .returned (.bool true) ∧ Below w.heap.size w w' := by
  have HM := Lib.hid hm
  have HG := Lib.hid hg
  have hup := fun W (hb : Below w.heap.size w W) => up7_c W (hg.under hb)
  have hfe := fun W (hb : Below w.heap.size w W) => fewM_c m ia ic da dc w.heap.size W (hm.under hb) hb.size
  have hcp := fun W (hb : Below w.heap.size w W) hf => copyM_c m ia ic da dc w.heap.size W (hm.under hb) hb.size hf
  simp only [mdlCells] at hfe hcp ⊢
  have HUP := Lib.hid hup
  have HFE := Lib.hid hfe
  have HCP := Lib.hid hcp
  clear hup hfe hcp hm hg
  obtain ⟨i0, hi, hz0, hzz1, hzz2⟩ := info_parts infoDcl
  go_enter Tryz.func5, Tryz.ntmps5
  go_upto_region 1 with fail
  obtain ⟨b1, hb1, hz1⟩ := laidN w #[.string m.name, .slice ia m.imps.length ic, .slice da m.decls.length dc] 25
  generalize w.alloc (.cells #[.string m.name, .slice ia m.imps.length ic, .slice da m.decls.length dc] 25) = W1 at b1 hb1 hz1 ⊢
  have D1 := Lib.hid b1
  have B1 := Lib.hid hb1
  clear b1 hb1 hz1
  obtain ⟨q, hq⟩ : ∃ q, fewM m = q := ⟨_, rfl⟩
  simp only [hq] at HFE
  go_upto_region 3 with (first
    | (go_at_call 12; refine (HUP.out _ B1.out).mono ?_; rintro e W2 ⟨rfl, hb⟩; have B2 := Lib.hid (B1.out.trans (hb.mono B1.out.size)); have d2 := D1.out.under hb D1.out.lt; have D2 := Lib.hid d2; obtain ⟨x0, x1, x2⟩ := cellsT3 d2; have lx := d2.lt; clear hb d2)
    | (go_at_call 13; refine (HFE.out _ B2.out).mono ?_; rintro e W3 ⟨rfl, hb⟩; have B3 := Lib.hid (B2.out.trans (hb.mono B2.out.size)); have d3 := D2.out.under hb D2.out.lt; have D3 := Lib.hid d3; clear hb x0 x1 x2 lx; obtain ⟨x0, x1, x2⟩ := cellsT3 d3; have lx := d3.lt; clear d3))
  cases q
  · go_wp2_with fail
    go_ret
    exact ⟨rfl, B3.out⟩
  have HC8 := Lib.hid (fun W hb => HCP.out W hb hq)
  clear HCP
  have hfw := hq
  simp only [fewM, Bool.and_eq_true, decide_eq_true_eq, List.all_eq_true] at hfw
  obtain ⟨-, hl1, hl2, -⟩ := hfw
  clear hq
  go_upto_region 6 with (go_at_call 22; refine (HC8.out _ B3.out).mono ?_; rintro e W4 ⟨ia5, ic5, da5, dc5, rfl, hm4, hb⟩; have HM4 := Lib.hid hm4; have B4 := Lib.hid (B3.out.trans (hb.mono B3.out.size)); have D4 := Lib.hid (D3.out.under hb D3.out.lt); clear hb hm4 x0 x1 x2 lx)
  obtain ⟨bx, hbx, hzx⟩ := laidN W4 #[.string m.name, .slice ia5 m.imps.length ic5, .slice da5 m.decls.length dc5] 25
  generalize W4.alloc (.cells #[.string m.name, .slice ia5 m.imps.length ic5, .slice da5 m.decls.length dc5] 25) = W5 at bx hbx hzx ⊢
  have HM5 := Lib.hid (HM4.out.under hbx)
  have B5 := Lib.hid (B4.out.trans (hbx.mono B4.out.size))
  have D5 := Lib.hid (D4.out.under hbx D4.out.lt)
  have N5 := Lib.hid bx
  have hck := fun W (hb : Below W5.heap.size W5 W) => check_c m ia5 ic5 da5 dc5 W4.heap.size W (HM5.out.under (hb.mono (Nat.le_of_lt bx.lt))) (Nat.le_trans (Nat.le_of_lt bx.lt) hb.size)
  have hsm := fun W (hb : Below W5.heap.size W5 W) => sameM_c m ia5 ic5 da5 dc5 ia ic da dc W5.heap.size W ((HM5.out.mono (Nat.le_of_lt bx.lt)).under hb) (((HM.out.under B5.out).mono B5.out.size).under hb) hb.size hl1 hl2
  simp only [mdlCells] at hck hsm
  have HCK := Lib.hid hck
  have HSM := Lib.hid hsm
  obtain ⟨y0, y1, y2⟩ := cellsT3 bx
  have ly := bx.lt
  clear hck hsm bx hbx hzx
  go_upto_region 9 with (first
    | (go_at_call 15; refine (HCK.out _ (Below.refl _ _)).mono ?_; rintro e W6 ⟨v5, rfl, he5, hb⟩; have HE5 := Lib.hid he5; have B6 := Lib.hid hb; have n6 := N5.out.under hb N5.out.lt; have d6 := D5.out.under hb D5.out.lt; clear hb he5 y0 y1 y2 ly; obtain ⟨y0, y1, y2⟩ := cellsT3 n6; obtain ⟨x0, x1, x2⟩ := cellsT3 d6; have ly := n6.lt; have lx := d6.lt; clear n6 d6)
    | (go_at_call 23; refine (HSM.out _ B6.out).mono ?_; rintro e W7 ⟨rfl, hb⟩; have B7 := Lib.hid (B5.out.trans ((B6.out.trans (hb.mono B6.out.size)).mono B5.out.size)); have B57 := B6.out.trans (hb.mono B6.out.size); have D7 := Lib.hid (D5.out.under B57 D5.out.lt); clear hb B57 x0 x1 x2 y0 y1 y2 lx ly))
  obtain ⟨x0, x1, x2⟩ := cellsT3 D7.out
  have lx := D7.out.lt
  go_upto_region 10 with (go_at_call 22; refine (HC8.out _ B7.out).mono ?_; rintro e W8 ⟨ia8, ic8, da8, dc8, rfl, hm8, hb⟩; have HM8 := Lib.hid hm8; have B8 := Lib.hid (B7.out.trans (hb.mono B7.out.size)); have D8 := Lib.hid (D7.out.under hb D7.out.lt); clear hb hm8 x0 x1 x2 lx)
  obtain ⟨bx, hbx, hzx⟩ := laidN W8 #[.string m.name, .slice ia8 m.imps.length ic8, .slice da8 m.decls.length dc8] 25
  generalize W8.alloc (.cells #[.string m.name, .slice ia8 m.imps.length ic8, .slice da8 m.decls.length dc8] 25) = W9 at bx hbx hzx ⊢
  have yb2 := bx.cell 2
  have yf2 := bx.free 2
  have yl2 := bx.lt
  simp at yb2
  go_upto_region 11 with fail
  clear yb2 yf2 yl2
  have bz : Blk (W9.setCell ⟨W8.heap.size, 2, none⟩ (.slice none 0 0)) W8.heap.size #[.string m.name, .slice ia8 m.imps.length ic8, .slice none 0 0] 25 := by have := bx.set 2 (.slice none 0 0); simpa using this
  have hbz : Below W8.heap.size W9 (W9.setCell ⟨W8.heap.size, 2, none⟩ (.slice none 0 0)) := (Below.refl _ _).setCell (p := ⟨W8.heap.size, 2, none⟩) (Nat.le_refl _) _
  have hzz : (W9.setCell ⟨W8.heap.size, 2, none⟩ (.slice none 0 0)).heap.size = W9.heap.size := by simp [World.setCell]
  generalize W9.setCell ⟨W8.heap.size, 2, none⟩ (.slice none 0 0) = W10 at bz hbz hzz ⊢
  have hbw : Below W8.heap.size W8 W10 := hbx.trans hbz
  have HMI := Lib.hid (HM8.out.under hbw)
  have BW := Lib.hid (B8.out.trans (hbw.mono B8.out.size))
  have DW := Lib.hid (D8.out.under hbw D8.out.lt)
  have hgw : w.heap.size ≤ W8.heap.size := B8.out.size
  have hgw1 : w.heap.size < W8.heap.size := D8.out.lt
  have lyW : W8.heap.size < W10.heap.size := bz.lt
  have R0 := Lib.hid (LeR.mk bz (RowD.nil W10 W10.heap.size _) (Below.refl _ _) : LeR m W10 W10 w.heap.size W8.heap.size (.slice ia8 m.imps.length ic8) (.slice none 0 0) [] [])
  clear bx hbx hzx bz hbz hzz hbw
  go_wp2
  go_loopw [8] (fun i wr => ∃ (k : Nat) (sv : Value) (F : List (Array Value)), i = .int .i64 k ∧ k ≤ m.decls.length ∧ LeR m W10 wr w.heap.size W8.heap.size (.slice ia8 m.imps.length ic8) sv F ((m.decls.take k).filter (fun d => !isVal d))) (fun i _ => m.decls.length - (intOf i).toNat)
  case atStart => exact ⟨0, _, _, rfl, Nat.zero_le _, R0.out⟩
  case round =>
    rename World => wr
    obtain ⟨k, sv, F, rfl, hk, hr⟩ := hrel
    have HR := Lib.hid hr
    have hwr := hr.fr.size
    have BR := Lib.hid (BW.out.trans (hr.fr.mono hgw))
    have hBr : w.heap.size ≤ wr.heap.size := BR.out.size
    have ly := hr.box.lt
    have y2 := hr.box.cell 2
    simp at y2
    have DR := Lib.hid (DW.out.under hr.fr hgw1)
    obtain ⟨x0, x1, x2⟩ := cellsT3 DR.out
    have lx := DR.out.lt
    clear hr
    by_cases hlt : k < m.decls.length
    · obtain ⟨d, hd⟩ : ∃ d, m.decls[k] = d := ⟨_, rfl⟩
      obtain ⟨hfd, bd, od, na, nc, sa, sc, hda, hbd, htd, e0, e1, e2, e3, e4, e5, e6, e7, e8⟩ := (HM.out.decls.under BR.out).elem hlt hd
      obtain rfl := hda
      have hltI : (k : Int) < (m.decls.length : Int) := by omega
      have hk0 : (0 : Int) ≤ (k : Int) := by omega
      have lbd : bd < wr.heap.size := by omega
      have HFT := Lib.hid hfd
      have HT := Lib.hid htd
      have HTK := Lib.hid (show (m.decls.take (k + 1)).filter (fun d => !isVal d) = (m.decls.take k).filter (fun d => !isVal d) ++ (if (fun d => !isVal d) d = true then [d] else []) by
        rw [List.take_succ_eq_append_getElem hlt, hd, List.filter_append, List.filter_cons, List.filter_nil])
      have HLF := Lib.hid (show ((m.decls.take k).filter (fun d => !isVal d)).length ≤ 100 by
        have h1 := List.length_filter_le (fun d => !isVal d) (m.decls.take k)
        have h2 : (m.decls.take k).length ≤ m.decls.length := by rw [List.length_take]; omega
        omega)
      clear hd htd hfd
      cases hp : (d.kind == 4)
      · have hne : (d.kind != 4) = true := by rw [bne, hp]; rfl
        have htk2 := HTK.out
        rw [if_pos (by simpa [isVal, bne] using hp)] at htk2
        have HT2 := Lib.hid htk2
        clear htk2
        go_upto_region 15 with fail
        refine wp_region_until [(8, fun w' => w'.cell? ⟨W8.heap.size, 2, none⟩ = some sv), (7, fun w' => w'.cell? ⟨w.heap.size, 2, none⟩ = some (.slice (some ⟨bd, od, none⟩) m.decls.length dc) ∧ w'.cell? ⟨bd, od + k * 9, none⟩ = some (.int .i64 d.kind) ∧ w'.cell? ⟨bd, od + k * 9 + 1, none⟩ = some (.string d.name) ∧ w'.cell? ⟨bd, od + k * 9 + 2, none⟩ = some (.int .i64 d.ty.kind) ∧ w'.cell? ⟨bd, od + k * 9 + 3, none⟩ = some (.string d.ty.pkg) ∧ w'.cell? ⟨bd, od + k * 9 + 4, none⟩ = some (.int .i64 d.ty.major) ∧ w'.cell? ⟨bd, od + k * 9 + 5, none⟩ = some (.string d.ty.mod) ∧ w'.cell? ⟨bd, od + k * 9 + 6, none⟩ = some (.string d.ty.name) ∧ w'.cell? ⟨bd, od + k * 9 + 7, none⟩ = some (.slice na d.ty.names.length nc) ∧ w'.cell? ⟨bd, od + k * 9 + 8, none⟩ = some (.slice sa d.ty.subs.length sc))] (by kernel_rfl) (Until.cons (fun _ => y2) (Until.cons (fun _ => ⟨x2, e0, e1, e2, e3, e4, e5, e6, e7, e8⟩) Until.nil)) (fun hU => ?_)
        refine AnyU.take (i := 0) (v := ?_) rfl (by kernel_rfl) (by kernel_rfl) (by kernel_rfl) (fun _ _ _ h => h) (by kernel_rfl) (by assumption) (by rfl) ?_ (fun hV => ?_)
        rotate_left 1
        · (intro wq; go_simp; try with_reducible rfl)
        clear hU
        have hU := hV
        clear hV
        try simp only [Act.put, List.getElem_toArray, List.getElem_cons_zero, List.getElem_cons_succ, List.setIfInBounds_toArray, List.set_cons_zero, List.set_cons_succ]
        refine AnyU.loadc (i := 1) (d := 8) [8] (Si := fun w' => w'.cell? ⟨W8.heap.size, 2, none⟩ = some sv) (v := ?_) rfl (by kernel_rfl) (by kernel_rfl) (by kernel_rfl) (fun _ _ _ h => h) (by kernel_rfl) (by assumption) (by kernel_rfl) rfl (by simp) (by rfl) ?_ (fun hV => ?_)
        rotate_left 1
        · (intro wq hq; go_simp; try with_reducible rfl)
        clear hU
        have hU := hV
        clear hV
        try simp only [Act.put, List.getElem_toArray, List.getElem_cons_zero, List.getElem_cons_succ, List.setIfInBounds_toArray, List.set_cons_zero, List.set_cons_succ]
        refine AnyU.take (i := 2) (v := ?_) rfl (by kernel_rfl) (by kernel_rfl) (by kernel_rfl) (fun _ _ _ h => h) (by kernel_rfl) (by assumption) (by rfl) ?_ (fun hV => ?_)
        rotate_left 1
        · (intro wq; go_simp; try with_reducible rfl)
        clear hU
        have hU := hV
        clear hV
        try simp only [Act.put, List.getElem_toArray, List.getElem_cons_zero, List.getElem_cons_succ, List.setIfInBounds_toArray, List.set_cons_zero, List.set_cons_succ]
        refine AnyU.loadc (i := 3) (d := 7) [5, 6, 7] (Si := fun w' => w'.cell? ⟨w.heap.size, 2, none⟩ = some (.slice (some ⟨bd, od, none⟩) m.decls.length dc) ∧ w'.cell? ⟨bd, od + k * 9, none⟩ = some (.int .i64 d.kind) ∧ w'.cell? ⟨bd, od + k * 9 + 1, none⟩ = some (.string d.name) ∧ w'.cell? ⟨bd, od + k * 9 + 2, none⟩ = some (.int .i64 d.ty.kind) ∧ w'.cell? ⟨bd, od + k * 9 + 3, none⟩ = some (.string d.ty.pkg) ∧ w'.cell? ⟨bd, od + k * 9 + 4, none⟩ = some (.int .i64 d.ty.major) ∧ w'.cell? ⟨bd, od + k * 9 + 5, none⟩ = some (.string d.ty.mod) ∧ w'.cell? ⟨bd, od + k * 9 + 6, none⟩ = some (.string d.ty.name) ∧ w'.cell? ⟨bd, od + k * 9 + 7, none⟩ = some (.slice na d.ty.names.length nc) ∧ w'.cell? ⟨bd, od + k * 9 + 8, none⟩ = some (.slice sa d.ty.subs.length sc)) (v := ?_) rfl (by kernel_rfl) (by kernel_rfl) (by kernel_rfl) (fun _ _ _ h => h) (by kernel_rfl) (by assumption) (by kernel_rfl) rfl (by simp) (by rfl) ?_ (fun hV => ?_)
        rotate_left 1
        · (intro wq hq; obtain ⟨u, -⟩ := hq; go_simp; try with_reducible rfl)
        clear hU
        have hU := hV
        clear hV
        try simp only [Act.put, List.getElem_toArray, List.getElem_cons_zero, List.getElem_cons_succ, List.setIfInBounds_toArray, List.set_cons_zero, List.set_cons_succ]
        refine AnyU.take (i := 4) (v := ?_) rfl (by kernel_rfl) (by kernel_rfl) (by kernel_rfl) (fun _ _ _ h => h) (by kernel_rfl) (by assumption) (by rfl) ?_ (fun hV => ?_)
        rotate_left 1
        · (intro wq; go_simp; try with_reducible rfl)
        clear hU
        have hU := hV
        clear hV
        try simp only [Act.put, List.getElem_toArray, List.getElem_cons_zero, List.getElem_cons_succ, List.setIfInBounds_toArray, List.set_cons_zero, List.set_cons_succ]
        refine AnyU.take (i := 5) (v := ?_) rfl (by kernel_rfl) (by kernel_rfl) (by kernel_rfl) (fun _ _ _ h => h) (by kernel_rfl) (by assumption) (by rfl) ?_ (fun hV => ?_)
        rotate_left 1
        · (intro wq; go_simp; try with_reducible rfl)
        clear hU
        have hU := hV
        clear hV
        try simp only [Act.put, List.getElem_toArray, List.getElem_cons_zero, List.getElem_cons_succ, List.setIfInBounds_toArray, List.set_cons_zero, List.set_cons_succ]
        refine AnyU.loadc (i := 6) (d := 7) [7] (Si := fun w' => w'.cell? ⟨w.heap.size, 2, none⟩ = some (.slice (some ⟨bd, od, none⟩) m.decls.length dc) ∧ w'.cell? ⟨bd, od + k * 9, none⟩ = some (.int .i64 d.kind) ∧ w'.cell? ⟨bd, od + k * 9 + 1, none⟩ = some (.string d.name) ∧ w'.cell? ⟨bd, od + k * 9 + 2, none⟩ = some (.int .i64 d.ty.kind) ∧ w'.cell? ⟨bd, od + k * 9 + 3, none⟩ = some (.string d.ty.pkg) ∧ w'.cell? ⟨bd, od + k * 9 + 4, none⟩ = some (.int .i64 d.ty.major) ∧ w'.cell? ⟨bd, od + k * 9 + 5, none⟩ = some (.string d.ty.mod) ∧ w'.cell? ⟨bd, od + k * 9 + 6, none⟩ = some (.string d.ty.name) ∧ w'.cell? ⟨bd, od + k * 9 + 7, none⟩ = some (.slice na d.ty.names.length nc) ∧ w'.cell? ⟨bd, od + k * 9 + 8, none⟩ = some (.slice sa d.ty.subs.length sc)) (v := ?_) rfl (by kernel_rfl) (by kernel_rfl) (by kernel_rfl) (fun _ _ _ h => h) (by kernel_rfl) (by assumption) (by kernel_rfl) rfl (by simp) (by rfl) ?_ (fun hV => ?_)
        rotate_left 1
        · (intro wq hq; obtain ⟨-, u0, u1, u2, u3, u4, u5, u6, u7, u8⟩ := hq; go_simp; try with_reducible rfl)
        clear hU
        have hU := hV
        clear hV
        try simp only [Act.put, List.getElem_toArray, List.getElem_cons_zero, List.getElem_cons_succ, List.setIfInBounds_toArray, List.set_cons_zero, List.set_cons_succ]
        refine AnyU.ready1 (i := 7) (by kernel_rfl) (AnyU.one rfl fun K hK => ?_)
        go_simp
        obtain ⟨zb, hbX, hsX⟩ := laidD wr #[.int .i64 d.kind, .string d.name, .int .i64 d.ty.kind, .string d.ty.pkg, .int .i64 d.ty.major, .string d.ty.mod, .string d.ty.name, .slice na d.ty.names.length nc, .slice sa d.ty.subs.length sc] 45
        generalize hX3 : (wr.alloc (.cells #[.int .i64 d.kind, .string d.name, .int .i64 d.ty.kind, .string d.ty.pkg, .int .i64 d.ty.major, .string d.ty.mod, .string d.ty.name, .slice na d.ty.names.length nc, .slice sa d.ty.subs.length sc] 45)).drew = X at zb hbX hsX ⊢
        clear hX3
        have y2' := (hbX.cell (p := ⟨W8.heap.size, 2, none⟩) ly).trans y2
        have RX := Lib.hid (HR.out.row.under hbX)
        have BX := Lib.hid (HR.out.box.under hbX ly)
        have HBX := Lib.hid hbX
        have HZB := Lib.hid (show X.heap[wr.heap.size]? = some (.cells #[.int .i64 d.kind, .string d.name, .int .i64 d.ty.kind, .string d.ty.pkg, .int .i64 d.ty.major, .string d.ty.mod, .string d.ty.name, .slice na d.ty.names.length nc, .slice sa d.ty.subs.length sc] 45 (0, 0)) from zb)
        have HDM := Lib.hid (show DclM X (fun b => b < w.heap.size ∧ b < X.heap.size ∧ sv.ownBlock ≠ some b) d #[.int .i64 d.kind, .string d.name, .int .i64 d.ty.kind, .string d.ty.pkg, .int .i64 d.ty.major, .string d.ty.mod, .string d.ty.name, .slice na d.ty.names.length nc, .slice sa d.ty.subs.length sc] from
          ⟨HFT.out, na, nc, sa, sc, rfl, ((HT.out.under (hbX.mono hBr)).toM).move (fun b hb => ⟨hb, by omega, fun e => by have := (owns_lt HR.out.row.row e).1; omega⟩) fun _ _ => rfl⟩)
        clear hbX zb
        refine hK.out _ _ (Until.cons (fun _ => y2') (Until.cons (fun h => absurd h (by decide)) Until.nil)) (fun hV => ?_)
        clear hK K
        clear hU
        have hU := hV
        clear hV
        try simp only [Act.put, List.getElem_toArray, List.getElem_cons_zero, List.getElem_cons_succ, List.setIfInBounds_toArray, List.set_cons_zero, List.set_cons_succ]
        refine AnyU.ready1 (i := 8) (by kernel_rfl) (AnyU.one rfl fun K hK => ?_)
        refine step_append_lies X rfl _ _ 23 rfl W10.heap.size 45 i0 (.agg #[.int .i64 0, .string { data := #[] }, .int .i64 0, .string { data := #[] }, .int .i64 0, .string { data := #[] }, .string { data := #[] }, .slice none 0 0, .slice none 0 0]) 9 136 Tryz.underlying23 hi hz0 hzz1 hzz2 rfl (by decide) sv ((m.decls.take k).filter (fun d => !isVal d)).length (F.flatMap (·.toList)) rfl RX.out.row ⟨wr.heap.size, 0, none⟩ 1 1 (#[.int .i64 d.kind, .string d.name, .int .i64 d.ty.kind, .string d.ty.pkg, .int .i64 d.ty.major, .string d.ty.mod, .string d.ty.name, .slice na d.ty.names.length nc, .slice sa d.ty.subs.length sc] : Array Value).toList rfl rfl (World.news_of_block HZB.out) (by simp [Value.oneCell']) (by omega) (by have := HLF.out; unfold maxLen; omega) (by have := HLF.out; omega) (by omega) _ rfl ?_
        intro gS cS x4 hownS hgS hatS hltS
        have hs4 := hgS.size
        have hnb : ∀ q, q < W10.heap.size → some q ≠ sv.ownBlock := fun q hq e => by have := (owns_lt RX.out.row e.symm).1; omega
        have hb4 : Blk x4 W8.heap.size #[.string m.name, (.slice ia8 m.imps.length ic8), sv] 25 := (hgS.block _ BX.out.lt (hnb _ lyW)).trans BX.out
        have HB4 := Lib.hid hb4
        have HOW := Lib.hid hownS
        have HGR := Lib.hid hgS
        have HAT := Lib.hid hatS
        have HNB := Lib.hid hnb
        have y2'' := hb4.cell 2
        have f2'' := hb4.free 2
        have l2'' := hb4.lt
        simp at y2''
        clear hb4 hownS hgS hatS hnb y2'
        refine hK.out _ _ (Until.offT (by kernel_rfl)) (fun hV => ?_)
        clear hK K
        clear hU
        have hU := hV
        clear hV
        try simp only [Act.put, List.getElem_toArray, List.getElem_cons_zero, List.getElem_cons_succ, List.setIfInBounds_toArray, List.set_cons_zero, List.set_cons_succ]
        refine AnyU.take (i := 9) (v := ?_) rfl (by kernel_rfl) (by kernel_rfl) (by kernel_rfl) (fun _ _ _ h => h) (by kernel_rfl) (by assumption) (by rfl) ?_ (fun hV => ?_)
        rotate_left 1
        · (intro wq; go_simp; try with_reducible rfl)
        clear hU
        have hU := hV
        clear hV
        try simp only [Act.put, List.getElem_toArray, List.getElem_cons_zero, List.getElem_cons_succ, List.setIfInBounds_toArray, List.set_cons_zero, List.set_cons_succ]
        refine AnyU.ready1 (i := 10) (by kernel_rfl) (AnyU.one rfl fun K hK => ?_)
        go_simp
        have hpush := RowD.push HR.out.row (x3 := X) (by omega) (fun b hb _ => HBX.out.block b hb) HDM.out HGR.out HOW.out HAT.out
        have hgn : ∀ b, (Value.slice (some ⟨gS, 0, none⟩) (((m.decls.take k).filter (fun d => !isVal d)).length + 1) cS).ownBlock = some b → W10.heap.size ≤ b := fun b hb => (owns_lt hpush.row hb).1
        have hnx : LeR m W10 (x4.setCell ⟨W8.heap.size, 2, none⟩ (.slice (some ⟨gS, 0, none⟩) (((m.decls.take k).filter (fun d => !isVal d)).length + 1) cS)) w.heap.size W8.heap.size (.slice ia8 m.imps.length ic8) (.slice (some ⟨gS, 0, none⟩) (((m.decls.take k).filter (fun d => !isVal d)).length + 1) cS) (F ++ [#[.int .i64 d.kind, .string d.name, .int .i64 d.ty.kind, .string d.ty.pkg, .int .i64 d.ty.major, .string d.ty.mod, .string d.ty.name, .slice na d.ty.names.length nc, .slice sa d.ty.subs.length sc]]) ((m.decls.take k).filter (fun d => !isVal d) ++ [d]) := by
          refine ⟨by have := HB4.out.set 2 (.slice (some ⟨gS, 0, none⟩) (((m.decls.take k).filter (fun d => !isVal d)).length + 1) cS); simpa using this, ?_, ?_⟩
          · refine hpush.keep (by simp [World.setCell]) fun b hb h => Below.heap_setCell x4 ⟨W8.heap.size, 2, none⟩ _ b ?_
            show b ≠ W8.heap.size
            rcases h with h | h
            · omega
            · have := hgn b h; omega
          · have hb4 : Below W8.heap.size W10 x4 := (HR.out.fr.trans (HBX.out.mono (by omega))).grown HGR.out (by omega) (fun q hq => by have := (owns_lt RX.out.row hq).1; omega)
            exact hb4.setCell (p := ⟨W8.heap.size, 2, none⟩) (Nat.le_refl _) _
        have HNXT := Lib.hid hnx
        generalize x4.setCell ⟨W8.heap.size, 2, none⟩ (.slice (some ⟨gS, 0, none⟩) (((m.decls.take k).filter (fun d => !isVal d)).length + 1) cS) = x5 at HNXT ⊢
        clear hnx hpush hgn
        refine hK.out _ _ (Until.offT (by kernel_rfl)) (fun hV => ?_)
        clear hK K
        clear hU
        have hU := hV
        clear hV
        try simp only [Act.put, List.getElem_toArray, List.getElem_cons_zero, List.getElem_cons_succ, List.setIfInBounds_toArray, List.set_cons_zero, List.set_cons_succ]
        refine AnyU.done (by kernel_rfl) ?_
        clear hU y2'' f2'' l2''
        go_wp2
        first
          | exact ⟨⟨k + 1, _, _, by go_num, by omega, by rw [HT2.out]; exact HNXT.out⟩, by simp [intOf]; omega⟩
          | (go_roundw
             case rel => exact ⟨k + 1, _, _, by go_num, by omega, by rw [HT2.out]; exact HNXT.out⟩
             case measure => simp [intOf]; omega)
      · have hne : (d.kind != 4) = false := by rw [bne, hp]; rfl
        have htk2 := HTK.out
        rw [if_neg (by simp only [isVal, bne, hp]; decide), List.append_nil] at htk2
        have HT2 := Lib.hid htk2
        clear htk2
        go_wp2_with fail
        first
          | exact ⟨⟨k + 1, _, _, by go_num, by omega, by rw [HT2.out]; exact HR.out⟩, by simp [intOf]; omega⟩
          | (go_roundw
             case rel => exact ⟨k + 1, _, _, by go_num, by omega, by rw [HT2.out]; exact HR.out⟩
             case measure => simp [intOf]; omega)
    · obtain rfl : k = m.decls.length := by omega
      have hltI : ¬ (m.decls.length : Int) < (m.decls.length : Int) := by omega
      have hrow := HR.out.row
      rw [List.take_length] at hrow
      obtain ⟨Ar, cr, rfl, hcr, hdr⟩ := hrow.at
      have hbx := HR.out.box
      have hmr : MdlC wr wr.heap.size ⟨m.name, m.imps, m.decls.filter (fun d => !isVal d)⟩ ia8 ic8 Ar cr := ⟨HMI.out.name, (HMI.out.imps.under HR.out.fr).mono (by omega), hdr, HMI.out.nImps, Nat.le_trans (List.length_filter_le _ _) HMI.out.nDecls, HMI.out.icap, hcr⟩
      have HCL := Lib.hid (fun W (hb : Below wr.heap.size wr W) => check_c ⟨m.name, m.imps, m.decls.filter (fun d => !isVal d)⟩ ia8 ic8 Ar cr wr.heap.size W (hmr.under hb) hb.size)
      have HCL' := HCL.out
      simp only [mdlCells] at HCL'
      have HCL2 := Lib.hid HCL'
      obtain ⟨y0, y1, y2⟩ := cellsT3 hbx
      have ly2 := hbx.lt
      clear hrow hdr hmr hbx HCL HCL'
      go_upto_region 16 with fail
      clear x0 x1 x2 lx
      go_cut [9] (fun v wx => ErrAt wx v (checkF ⟨m.name, m.imps, m.decls.filter (fun d => !isVal d)⟩) ∧ Below wr.heap.size wr wx)
      case first =>
        go_wp2_with (go_at_call 15; refine (HCL2.out _ (Below.refl _ _)).mono ?_; rintro e Wp ⟨vp, rfl, hep, hb⟩; have HEP := Lib.hid hep; have BP := Lib.hid hb; clear hb hep y0 y1 y2 ly2)
        go_meet
        exact ⟨HEP.out, BP.out⟩
      case rest =>
        rename World => Wp
        rename Value => vp
        obtain ⟨hep, hb⟩ := hcut
        have HEP := Lib.hid hep
        have BP := Lib.hid (BR.out.trans (hb.mono BR.out.size))
        have DP := Lib.hid (DR.out.under hb DR.out.lt)
        clear hb hep y0 y1 y2 ly2
        have hless : (checkF m).isNone = true → (checkF ⟨m.name, m.imps, m.decls.filter (fun d => !isVal d)⟩).isNone = true := fun h => by
          rw [Option.isNone_iff_eq_none] at h ⊢
          exact lessC (m := m) (m' := ⟨m.name, m.imps, m.decls.filter (fun d => !isVal d)⟩) rfl rfl rfl h
        have HLESS := Lib.hid hless
        clear hless
        have lN := RL.nilN
        have lC := RL.nilC
        have lS := RL.nilS
        have mN := RL.nnilN
        have mC := RL.nnilC
        have mS := RL.nnilS
        go_upto_region 17 with fail
        go_cut [62] (fun v wx => v = .bool false ∧ wx = Wp)
        case first =>
          rcases err_form HE5.out with ⟨n3, rfl⟩ | ⟨c3, n3, rfl⟩ | ⟨b3, n3, rfl⟩ <;> rcases err_form HEP.out with ⟨n4, rfl⟩ | ⟨c4, n4, rfl⟩ | ⟨b4, n4, rfl⟩
          all_goals first
            | (exfalso; have := HLESS.out n3; rw [n4] at this; exact absurd this (by decide))
            | (clear n3 n4; go_wp2_with fail; go_meet; exact ⟨rfl, rfl⟩)
        case rest =>
          obtain ⟨rfl, rfl⟩ := hcut
          clear lN lC lS mN mC mS
          rename World => Wp
          obtain ⟨x0, x1, x2⟩ := cellsT3 DP.out
          have lx := DP.out.lt
          have BPw := Lib.hid BP.out
          go_upto_region 20 with (go_at_call 22; refine (HC8.out _ BPw.out).mono ?_; rintro e W11 ⟨ia9, ic9, da9, dc9, rfl, hm9, hb⟩; have HM9 := Lib.hid hm9; have B11 := Lib.hid (BPw.out.trans (hb.mono BPw.out.size)); have D11 := Lib.hid (DP.out.under hb DP.out.lt); clear hb hm9 x0 x1 x2 lx)
          obtain ⟨bx, hbx, hzx⟩ := laidN W11 #[.string m.name, .slice ia9 m.imps.length ic9, .slice da9 m.decls.length dc9] 25
          generalize W11.alloc (.cells #[.string m.name, .slice ia9 m.imps.length ic9, .slice da9 m.decls.length dc9] 25) = W12 at bx hbx hzx ⊢
          have yb2 := bx.cell 2
          have yf2 := bx.free 2
          have yl2 := bx.lt
          simp at yb2
          clear HMI BW DW hgw hgw1 lyW R0 HR hwr BR hBr DR hk hlt hltI
          go_upto_region 21 with fail
          clear yb2 yf2 yl2
          have bz : Blk (W12.setCell ⟨W11.heap.size, 2, none⟩ (.slice none 0 0)) W11.heap.size #[.string m.name, .slice ia9 m.imps.length ic9, .slice none 0 0] 25 := by have := bx.set 2 (.slice none 0 0); simpa using this
          have hbz : Below W11.heap.size W12 (W12.setCell ⟨W11.heap.size, 2, none⟩ (.slice none 0 0)) := (Below.refl _ _).setCell (p := ⟨W11.heap.size, 2, none⟩) (Nat.le_refl _) _
          have hzz : (W12.setCell ⟨W11.heap.size, 2, none⟩ (.slice none 0 0)).heap.size = W12.heap.size := by simp [World.setCell]
          generalize W12.setCell ⟨W11.heap.size, 2, none⟩ (.slice none 0 0) = W13 at bz hbz hzz ⊢
          have hbw : Below W11.heap.size W11 W13 := hbx.trans hbz
          have HMI := Lib.hid (HM9.out.under hbw)
          have BW := Lib.hid (B11.out.trans (hbw.mono B11.out.size))
          have DW := Lib.hid (D11.out.under hbw D11.out.lt)
          have hgw : w.heap.size ≤ W11.heap.size := B11.out.size
          have hgw1 : w.heap.size < W11.heap.size := D11.out.lt
          have lyW : W11.heap.size < W13.heap.size := bz.lt
          have R0 := Lib.hid (LeR.mk bz (RowD.nil W13 W13.heap.size _) (Below.refl _ _) : LeR m W13 W13 w.heap.size W11.heap.size (.slice ia9 m.imps.length ic9) (.slice none 0 0) [] [])
          clear bx hbx hzx bz hbz hzz hbw
          go_wp2
          go_loopw [11] (fun i wr => ∃ (k : Nat) (sv : Value) (F : List (Array Value)), i = .int .i64 k ∧ k ≤ m.decls.length ∧ LeR m W13 wr w.heap.size W11.heap.size (.slice ia9 m.imps.length ic9) sv F ((m.decls.take k).filter (fun d => d.kind != 3))) (fun i _ => m.decls.length - (intOf i).toNat)
          case atStart => exact ⟨0, _, _, rfl, Nat.zero_le _, R0.out⟩
          case round =>
            rename World => wr
            obtain ⟨k, sv, F, rfl, hk, hr⟩ := hrel
            have HR := Lib.hid hr
            have hwr := hr.fr.size
            have BR := Lib.hid (BW.out.trans (hr.fr.mono hgw))
            have hBr : w.heap.size ≤ wr.heap.size := BR.out.size
            have ly := hr.box.lt
            have y2 := hr.box.cell 2
            simp at y2
            have DR := Lib.hid (DW.out.under hr.fr hgw1)
            obtain ⟨x0, x1, x2⟩ := cellsT3 DR.out
            have lx := DR.out.lt
            clear hr
            by_cases hlt : k < m.decls.length
            · obtain ⟨d, hd⟩ : ∃ d, m.decls[k] = d := ⟨_, rfl⟩
              obtain ⟨hfd, bd, od, na, nc, sa, sc, hda, hbd, htd, e0, e1, e2, e3, e4, e5, e6, e7, e8⟩ := (HM.out.decls.under BR.out).elem hlt hd
              obtain rfl := hda
              have hltI : (k : Int) < (m.decls.length : Int) := by omega
              have hk0 : (0 : Int) ≤ (k : Int) := by omega
              have lbd : bd < wr.heap.size := by omega
              have HFT := Lib.hid hfd
              have HT := Lib.hid htd
              have HTK := Lib.hid (show (m.decls.take (k + 1)).filter (fun d => d.kind != 3) = (m.decls.take k).filter (fun d => d.kind != 3) ++ (if (fun d => d.kind != 3) d = true then [d] else []) by
                rw [List.take_succ_eq_append_getElem hlt, hd, List.filter_append, List.filter_cons, List.filter_nil])
              have HLF := Lib.hid (show ((m.decls.take k).filter (fun d => d.kind != 3)).length ≤ 100 by
                have h1 := List.length_filter_le (fun d => d.kind != 3) (m.decls.take k)
                have h2 : (m.decls.take k).length ≤ m.decls.length := by rw [List.length_take]; omega
                omega)
              clear hd htd hfd
              cases hp : (d.kind == 3)
              · have hne : (d.kind != 3) = true := by rw [bne, hp]; rfl
                have htk2 := HTK.out
                rw [if_pos (by simpa [isVal, bne] using hp)] at htk2
                have HT2 := Lib.hid htk2
                clear htk2
                go_upto_region 25 with fail
                refine wp_region_until [(8, fun w' => w'.cell? ⟨W11.heap.size, 2, none⟩ = some sv), (7, fun w' => w'.cell? ⟨w.heap.size, 2, none⟩ = some (.slice (some ⟨bd, od, none⟩) m.decls.length dc) ∧ w'.cell? ⟨bd, od + k * 9, none⟩ = some (.int .i64 d.kind) ∧ w'.cell? ⟨bd, od + k * 9 + 1, none⟩ = some (.string d.name) ∧ w'.cell? ⟨bd, od + k * 9 + 2, none⟩ = some (.int .i64 d.ty.kind) ∧ w'.cell? ⟨bd, od + k * 9 + 3, none⟩ = some (.string d.ty.pkg) ∧ w'.cell? ⟨bd, od + k * 9 + 4, none⟩ = some (.int .i64 d.ty.major) ∧ w'.cell? ⟨bd, od + k * 9 + 5, none⟩ = some (.string d.ty.mod) ∧ w'.cell? ⟨bd, od + k * 9 + 6, none⟩ = some (.string d.ty.name) ∧ w'.cell? ⟨bd, od + k * 9 + 7, none⟩ = some (.slice na d.ty.names.length nc) ∧ w'.cell? ⟨bd, od + k * 9 + 8, none⟩ = some (.slice sa d.ty.subs.length sc))] (by kernel_rfl) (Until.cons (fun _ => y2) (Until.cons (fun _ => ⟨x2, e0, e1, e2, e3, e4, e5, e6, e7, e8⟩) Until.nil)) (fun hU => ?_)
                refine AnyU.take (i := 0) (v := ?_) rfl (by kernel_rfl) (by kernel_rfl) (by kernel_rfl) (fun _ _ _ h => h) (by kernel_rfl) (by assumption) (by rfl) ?_ (fun hV => ?_)
                rotate_left 1
                · (intro wq; go_simp; try with_reducible rfl)
                clear hU
                have hU := hV
                clear hV
                try simp only [Act.put, List.getElem_toArray, List.getElem_cons_zero, List.getElem_cons_succ, List.setIfInBounds_toArray, List.set_cons_zero, List.set_cons_succ]
                refine AnyU.loadc (i := 1) (d := 8) [8] (Si := fun w' => w'.cell? ⟨W11.heap.size, 2, none⟩ = some sv) (v := ?_) rfl (by kernel_rfl) (by kernel_rfl) (by kernel_rfl) (fun _ _ _ h => h) (by kernel_rfl) (by assumption) (by kernel_rfl) rfl (by simp) (by rfl) ?_ (fun hV => ?_)
                rotate_left 1
                · (intro wq hq; go_simp; try with_reducible rfl)
                clear hU
                have hU := hV
                clear hV
                try simp only [Act.put, List.getElem_toArray, List.getElem_cons_zero, List.getElem_cons_succ, List.setIfInBounds_toArray, List.set_cons_zero, List.set_cons_succ]
                refine AnyU.take (i := 2) (v := ?_) rfl (by kernel_rfl) (by kernel_rfl) (by kernel_rfl) (fun _ _ _ h => h) (by kernel_rfl) (by assumption) (by rfl) ?_ (fun hV => ?_)
                rotate_left 1
                · (intro wq; go_simp; try with_reducible rfl)
                clear hU
                have hU := hV
                clear hV
                try simp only [Act.put, List.getElem_toArray, List.getElem_cons_zero, List.getElem_cons_succ, List.setIfInBounds_toArray, List.set_cons_zero, List.set_cons_succ]
                refine AnyU.loadc (i := 3) (d := 7) [5, 6, 7] (Si := fun w' => w'.cell? ⟨w.heap.size, 2, none⟩ = some (.slice (some ⟨bd, od, none⟩) m.decls.length dc) ∧ w'.cell? ⟨bd, od + k * 9, none⟩ = some (.int .i64 d.kind) ∧ w'.cell? ⟨bd, od + k * 9 + 1, none⟩ = some (.string d.name) ∧ w'.cell? ⟨bd, od + k * 9 + 2, none⟩ = some (.int .i64 d.ty.kind) ∧ w'.cell? ⟨bd, od + k * 9 + 3, none⟩ = some (.string d.ty.pkg) ∧ w'.cell? ⟨bd, od + k * 9 + 4, none⟩ = some (.int .i64 d.ty.major) ∧ w'.cell? ⟨bd, od + k * 9 + 5, none⟩ = some (.string d.ty.mod) ∧ w'.cell? ⟨bd, od + k * 9 + 6, none⟩ = some (.string d.ty.name) ∧ w'.cell? ⟨bd, od + k * 9 + 7, none⟩ = some (.slice na d.ty.names.length nc) ∧ w'.cell? ⟨bd, od + k * 9 + 8, none⟩ = some (.slice sa d.ty.subs.length sc)) (v := ?_) rfl (by kernel_rfl) (by kernel_rfl) (by kernel_rfl) (fun _ _ _ h => h) (by kernel_rfl) (by assumption) (by kernel_rfl) rfl (by simp) (by rfl) ?_ (fun hV => ?_)
                rotate_left 1
                · (intro wq hq; obtain ⟨u, -⟩ := hq; go_simp; try with_reducible rfl)
                clear hU
                have hU := hV
                clear hV
                try simp only [Act.put, List.getElem_toArray, List.getElem_cons_zero, List.getElem_cons_succ, List.setIfInBounds_toArray, List.set_cons_zero, List.set_cons_succ]
                refine AnyU.take (i := 4) (v := ?_) rfl (by kernel_rfl) (by kernel_rfl) (by kernel_rfl) (fun _ _ _ h => h) (by kernel_rfl) (by assumption) (by rfl) ?_ (fun hV => ?_)
                rotate_left 1
                · (intro wq; go_simp; try with_reducible rfl)
                clear hU
                have hU := hV
                clear hV
                try simp only [Act.put, List.getElem_toArray, List.getElem_cons_zero, List.getElem_cons_succ, List.setIfInBounds_toArray, List.set_cons_zero, List.set_cons_succ]
                refine AnyU.take (i := 5) (v := ?_) rfl (by kernel_rfl) (by kernel_rfl) (by kernel_rfl) (fun _ _ _ h => h) (by kernel_rfl) (by assumption) (by rfl) ?_ (fun hV => ?_)
                rotate_left 1
                · (intro wq; go_simp; try with_reducible rfl)
                clear hU
                have hU := hV
                clear hV
                try simp only [Act.put, List.getElem_toArray, List.getElem_cons_zero, List.getElem_cons_succ, List.setIfInBounds_toArray, List.set_cons_zero, List.set_cons_succ]
                refine AnyU.loadc (i := 6) (d := 7) [7] (Si := fun w' => w'.cell? ⟨w.heap.size, 2, none⟩ = some (.slice (some ⟨bd, od, none⟩) m.decls.length dc) ∧ w'.cell? ⟨bd, od + k * 9, none⟩ = some (.int .i64 d.kind) ∧ w'.cell? ⟨bd, od + k * 9 + 1, none⟩ = some (.string d.name) ∧ w'.cell? ⟨bd, od + k * 9 + 2, none⟩ = some (.int .i64 d.ty.kind) ∧ w'.cell? ⟨bd, od + k * 9 + 3, none⟩ = some (.string d.ty.pkg) ∧ w'.cell? ⟨bd, od + k * 9 + 4, none⟩ = some (.int .i64 d.ty.major) ∧ w'.cell? ⟨bd, od + k * 9 + 5, none⟩ = some (.string d.ty.mod) ∧ w'.cell? ⟨bd, od + k * 9 + 6, none⟩ = some (.string d.ty.name) ∧ w'.cell? ⟨bd, od + k * 9 + 7, none⟩ = some (.slice na d.ty.names.length nc) ∧ w'.cell? ⟨bd, od + k * 9 + 8, none⟩ = some (.slice sa d.ty.subs.length sc)) (v := ?_) rfl (by kernel_rfl) (by kernel_rfl) (by kernel_rfl) (fun _ _ _ h => h) (by kernel_rfl) (by assumption) (by kernel_rfl) rfl (by simp) (by rfl) ?_ (fun hV => ?_)
                rotate_left 1
                · (intro wq hq; obtain ⟨-, u0, u1, u2, u3, u4, u5, u6, u7, u8⟩ := hq; go_simp; try with_reducible rfl)
                clear hU
                have hU := hV
                clear hV
                try simp only [Act.put, List.getElem_toArray, List.getElem_cons_zero, List.getElem_cons_succ, List.setIfInBounds_toArray, List.set_cons_zero, List.set_cons_succ]
                refine AnyU.ready1 (i := 7) (by kernel_rfl) (AnyU.one rfl fun K hK => ?_)
                go_simp
                obtain ⟨zb, hbX, hsX⟩ := laidD wr #[.int .i64 d.kind, .string d.name, .int .i64 d.ty.kind, .string d.ty.pkg, .int .i64 d.ty.major, .string d.ty.mod, .string d.ty.name, .slice na d.ty.names.length nc, .slice sa d.ty.subs.length sc] 45
                generalize hX3 : (wr.alloc (.cells #[.int .i64 d.kind, .string d.name, .int .i64 d.ty.kind, .string d.ty.pkg, .int .i64 d.ty.major, .string d.ty.mod, .string d.ty.name, .slice na d.ty.names.length nc, .slice sa d.ty.subs.length sc] 45)).drew = X at zb hbX hsX ⊢
                clear hX3
                have y2' := (hbX.cell (p := ⟨W11.heap.size, 2, none⟩) ly).trans y2
                have RX := Lib.hid (HR.out.row.under hbX)
                have BX := Lib.hid (HR.out.box.under hbX ly)
                have HBX := Lib.hid hbX
                have HZB := Lib.hid (show X.heap[wr.heap.size]? = some (.cells #[.int .i64 d.kind, .string d.name, .int .i64 d.ty.kind, .string d.ty.pkg, .int .i64 d.ty.major, .string d.ty.mod, .string d.ty.name, .slice na d.ty.names.length nc, .slice sa d.ty.subs.length sc] 45 (0, 0)) from zb)
                have HDM := Lib.hid (show DclM X (fun b => b < w.heap.size ∧ b < X.heap.size ∧ sv.ownBlock ≠ some b) d #[.int .i64 d.kind, .string d.name, .int .i64 d.ty.kind, .string d.ty.pkg, .int .i64 d.ty.major, .string d.ty.mod, .string d.ty.name, .slice na d.ty.names.length nc, .slice sa d.ty.subs.length sc] from
                  ⟨HFT.out, na, nc, sa, sc, rfl, ((HT.out.under (hbX.mono hBr)).toM).move (fun b hb => ⟨hb, by omega, fun e => by have := (owns_lt HR.out.row.row e).1; omega⟩) fun _ _ => rfl⟩)
                clear hbX zb
                refine hK.out _ _ (Until.cons (fun _ => y2') (Until.cons (fun h => absurd h (by decide)) Until.nil)) (fun hV => ?_)
                clear hK K
                clear hU
                have hU := hV
                clear hV
                try simp only [Act.put, List.getElem_toArray, List.getElem_cons_zero, List.getElem_cons_succ, List.setIfInBounds_toArray, List.set_cons_zero, List.set_cons_succ]
                refine AnyU.ready1 (i := 8) (by kernel_rfl) (AnyU.one rfl fun K hK => ?_)
                refine step_append_lies X rfl _ _ 23 rfl W13.heap.size 45 i0 (.agg #[.int .i64 0, .string { data := #[] }, .int .i64 0, .string { data := #[] }, .int .i64 0, .string { data := #[] }, .string { data := #[] }, .slice none 0 0, .slice none 0 0]) 9 136 Tryz.underlying23 hi hz0 hzz1 hzz2 rfl (by decide) sv ((m.decls.take k).filter (fun d => d.kind != 3)).length (F.flatMap (·.toList)) rfl RX.out.row ⟨wr.heap.size, 0, none⟩ 1 1 (#[.int .i64 d.kind, .string d.name, .int .i64 d.ty.kind, .string d.ty.pkg, .int .i64 d.ty.major, .string d.ty.mod, .string d.ty.name, .slice na d.ty.names.length nc, .slice sa d.ty.subs.length sc] : Array Value).toList rfl rfl (World.news_of_block HZB.out) (by simp [Value.oneCell']) (by omega) (by have := HLF.out; unfold maxLen; omega) (by have := HLF.out; omega) (by omega) _ rfl ?_
                intro gS cS x4 hownS hgS hatS hltS
                have hs4 := hgS.size
                have hnb : ∀ q, q < W13.heap.size → some q ≠ sv.ownBlock := fun q hq e => by have := (owns_lt RX.out.row e.symm).1; omega
                have hb4 : Blk x4 W11.heap.size #[.string m.name, (.slice ia9 m.imps.length ic9), sv] 25 := (hgS.block _ BX.out.lt (hnb _ lyW)).trans BX.out
                have HB4 := Lib.hid hb4
                have HOW := Lib.hid hownS
                have HGR := Lib.hid hgS
                have HAT := Lib.hid hatS
                have HNB := Lib.hid hnb
                have y2'' := hb4.cell 2
                have f2'' := hb4.free 2
                have l2'' := hb4.lt
                simp at y2''
                clear hb4 hownS hgS hatS hnb y2'
                refine hK.out _ _ (Until.offT (by kernel_rfl)) (fun hV => ?_)
                clear hK K
                clear hU
                have hU := hV
                clear hV
                try simp only [Act.put, List.getElem_toArray, List.getElem_cons_zero, List.getElem_cons_succ, List.setIfInBounds_toArray, List.set_cons_zero, List.set_cons_succ]
                refine AnyU.take (i := 9) (v := ?_) rfl (by kernel_rfl) (by kernel_rfl) (by kernel_rfl) (fun _ _ _ h => h) (by kernel_rfl) (by assumption) (by rfl) ?_ (fun hV => ?_)
                rotate_left 1
                · (intro wq; go_simp; try with_reducible rfl)
                clear hU
                have hU := hV
                clear hV
                try simp only [Act.put, List.getElem_toArray, List.getElem_cons_zero, List.getElem_cons_succ, List.setIfInBounds_toArray, List.set_cons_zero, List.set_cons_succ]
                refine AnyU.ready1 (i := 10) (by kernel_rfl) (AnyU.one rfl fun K hK => ?_)
                go_simp
                have hpush := RowD.push HR.out.row (x3 := X) (by omega) (fun b hb _ => HBX.out.block b hb) HDM.out HGR.out HOW.out HAT.out
                have hgn : ∀ b, (Value.slice (some ⟨gS, 0, none⟩) (((m.decls.take k).filter (fun d => d.kind != 3)).length + 1) cS).ownBlock = some b → W13.heap.size ≤ b := fun b hb => (owns_lt hpush.row hb).1
                have hnx : LeR m W13 (x4.setCell ⟨W11.heap.size, 2, none⟩ (.slice (some ⟨gS, 0, none⟩) (((m.decls.take k).filter (fun d => d.kind != 3)).length + 1) cS)) w.heap.size W11.heap.size (.slice ia9 m.imps.length ic9) (.slice (some ⟨gS, 0, none⟩) (((m.decls.take k).filter (fun d => d.kind != 3)).length + 1) cS) (F ++ [#[.int .i64 d.kind, .string d.name, .int .i64 d.ty.kind, .string d.ty.pkg, .int .i64 d.ty.major, .string d.ty.mod, .string d.ty.name, .slice na d.ty.names.length nc, .slice sa d.ty.subs.length sc]]) ((m.decls.take k).filter (fun d => d.kind != 3) ++ [d]) := by
                  refine ⟨by have := HB4.out.set 2 (.slice (some ⟨gS, 0, none⟩) (((m.decls.take k).filter (fun d => d.kind != 3)).length + 1) cS); simpa using this, ?_, ?_⟩
                  · refine hpush.keep (by simp [World.setCell]) fun b hb h => Below.heap_setCell x4 ⟨W11.heap.size, 2, none⟩ _ b ?_
                    show b ≠ W11.heap.size
                    rcases h with h | h
                    · omega
                    · have := hgn b h; omega
                  · have hb4 : Below W11.heap.size W13 x4 := (HR.out.fr.trans (HBX.out.mono (by omega))).grown HGR.out (by omega) (fun q hq => by have := (owns_lt RX.out.row hq).1; omega)
                    exact hb4.setCell (p := ⟨W11.heap.size, 2, none⟩) (Nat.le_refl _) _
                have HNXT := Lib.hid hnx
                generalize x4.setCell ⟨W11.heap.size, 2, none⟩ (.slice (some ⟨gS, 0, none⟩) (((m.decls.take k).filter (fun d => d.kind != 3)).length + 1) cS) = x5 at HNXT ⊢
                clear hnx hpush hgn
                refine hK.out _ _ (Until.offT (by kernel_rfl)) (fun hV => ?_)
                clear hK K
                clear hU
                have hU := hV
                clear hV
                try simp only [Act.put, List.getElem_toArray, List.getElem_cons_zero, List.getElem_cons_succ, List.setIfInBounds_toArray, List.set_cons_zero, List.set_cons_succ]
                refine AnyU.done (by kernel_rfl) ?_
                clear hU y2'' f2'' l2''
                go_wp2
                first
                  | exact ⟨⟨k + 1, _, _, by go_num, by omega, by rw [HT2.out]; exact HNXT.out⟩, by simp [intOf]; omega⟩
                  | (go_roundw
                     case rel => exact ⟨k + 1, _, _, by go_num, by omega, by rw [HT2.out]; exact HNXT.out⟩
                     case measure => simp [intOf]; omega)
              · have hne : (d.kind != 3) = false := by rw [bne, hp]; rfl
                have htk2 := HTK.out
                rw [if_neg (by simp only [isVal, bne, hp]; decide), List.append_nil] at htk2
                have HT2 := Lib.hid htk2
                clear htk2
                go_wp2_with fail
                first
                  | exact ⟨⟨k + 1, _, _, by go_num, by omega, by rw [HT2.out]; exact HR.out⟩, by simp [intOf]; omega⟩
                  | (go_roundw
                     case rel => exact ⟨k + 1, _, _, by go_num, by omega, by rw [HT2.out]; exact HR.out⟩
                     case measure => simp [intOf]; omega)
            · obtain rfl : k = m.decls.length := by omega
              have hltI : ¬ (m.decls.length : Int) < (m.decls.length : Int) := by omega
              have hrow := HR.out.row
              rw [List.take_length] at hrow
              obtain ⟨Ar, cr, rfl, hcr, hdr⟩ := hrow.at
              have hbx := HR.out.box
              have hmr : MdlC wr wr.heap.size ⟨m.name, m.imps, m.decls.filter (fun d => d.kind != 3)⟩ ia9 ic9 Ar cr := ⟨HMI.out.name, (HMI.out.imps.under HR.out.fr).mono (by omega), hdr, HMI.out.nImps, Nat.le_trans (List.length_filter_le _ _) HMI.out.nDecls, HMI.out.icap, hcr⟩
              have HCN := Lib.hid (fun W (hb : Below wr.heap.size wr W) => check_c ⟨m.name, m.imps, m.decls.filter (fun d => d.kind != 3)⟩ ia9 ic9 Ar cr wr.heap.size W (hmr.under hb) hb.size)
              have HCN' := HCN.out
              simp only [mdlCells] at HCN'
              have HCN2 := Lib.hid HCN'
              obtain ⟨y0, y1, y2⟩ := cellsT3 hbx
              have ly2 := hbx.lt
              have HGR2 := Lib.hid (HG.out.under BR.out)
              clear hrow hdr hmr hbx HCN HCN'
              have hsix : (numE (checkF ⟨m.name, m.imps, m.decls.filter (fun d => d.kind != 3)⟩)).1 ≠ 6 := by
                cases hc : checkF ⟨m.name, m.imps, m.decls.filter (fun d => d.kind != 3)⟩ with
                | none => decide
                | some p =>
                  obtain ⟨c, q⟩ := p
                  have := noneC (m := ⟨m.name, m.imps, m.decls.filter (fun d => d.kind != 3)⟩) (fun d hd => by have := (List.mem_filter.1 hd).2; simpa using this) hc
                  cases q <;> exact this
              obtain ⟨nn, hnn⟩ : ∃ nn, (numE (checkF ⟨m.name, m.imps, m.decls.filter (fun d => d.kind != 3)⟩)).1 = nn := ⟨_, rfl⟩
              rw [hnn] at hsix
              have hsx : (nn != 6) = true := by simpa using hsix
              have HNN := Lib.hid hnn
              have HCO := Lib.hid (checkF_range ⟨m.name, m.imps, m.decls.filter (fun d => d.kind != 3)⟩)
              clear hnn hsix
              go_wp2_with (first
                | (go_at_call 15; refine (HCN2.out _ (Below.refl _ _)).mono ?_; rintro e Wp ⟨vp, rfl, hep, hb⟩; have HEP := Lib.hid hep; have BP := Lib.hid (BR.out.trans (hb.mono BR.out.size)); have HGP := Lib.hid (HGR2.out.under hb); clear hb hep y0 y1 y2 ly2)
                | (go_at_call 24; refine (errOf_c vp _ _ HGP.out HEP.out HCO.out).mono ?_; rintro e Wq ⟨rfl, hb⟩; rw [HNN.out]; have BQ := Lib.hid (BP.out.trans (hb.mono BP.out.size)); clear hb))
              go_ret
              exact ⟨rfl, BQ.out⟩
end Go.Proofs.YtjeldfipipkfiaaGreatDoor
namespace Go.Proofs.YtjeldfipipkfiaaGreatDoor
open Go.ChangeShapes Go.WideShapes Go.ChangeAt Go.RowKit
open Go.ChangeMaps (open_string shut_string)
namespace less
theorem own : ownKnob Tryz.prog.godebug = none := by kernel_rfl
theorem laidOut : laidOutB Tryz.prog = true := by kernel_rfl
def put0 (h : Array Obj) (g : Nat) (cs : Array Value) : Array Obj := h.modify g fun
  | .cells _ t frozen => .cells cs t frozen
  | o => o
/-- a world that meets the condition: the settled one, the listed tables laid -/
noncomputable def laidWorld (os : Os) : World :=
  let w0 := World.holding Tryz.prog os ⟨#[], #[], []⟩
  { w0 with heap := put0 (w0.heap) 0 #[.iface 207 (.agg #[.pointer (some ⟨5, 34, none⟩)])] }
theorem laid_met (os : Os) (args : Array Value) : laidMetH Tryz.prog Rows.scopeLessRow.laid ((laidWorld os).forCall (fun _ _ => 0) ⟨#[], args, []⟩).memory :=
  laidMetH_of_parts (laidMet_nil _ _) (by kernel_rfl)
theorem RL.et : (Tryz.prog).globalNamed "errors.errorType" = some 0 := by kernel_rfl
theorem RL.rt : ((Tryz.prog).cutTypes.find? (·.1 == "internal/reflectlite.rtype")).map (·.2) = some 207 := by kernel_rfl
theorem RL.oneRow : ((List.range (Tryz.prog).types.size).filter fun t => (Tryz.prog).rowNamed t [101, 114, 114, 111, 114]) = [34] := by kernel_rfl
/-- what the condition gives a walk: the variable's one cell -/
theorem handle_of_laid {W : World} (h : laidMetH Tryz.prog Rows.scopeLessRow.laid W) : HandleE W := by
  have h' : laidMet Tryz.prog [] W ∧ handlesMet Tryz.prog Rows.scopeLessRow.laid W := h
  obtain ⟨name, u, ty, e1, e2, e3, e4, e5⟩ := h'.2 _ (List.mem_singleton.2 rfl)
  have en : name = [101, 114, 114, 111, 114] := (Option.some.inj e1).symm
  subst en
  obtain rfl := Option.some.inj (RL.rt.symm.trans e2)
  have hm : ty ∈ (List.range (Tryz.prog).types.size).filter fun t => (Tryz.prog).rowNamed t [101, 114, 114, 111, 114] := List.mem_filter.2 ⟨List.mem_range.2 e3, e4⟩
  rw [RL.oneRow] at hm
  obtain rfl := List.mem_singleton.1 hm
  have hh : typeHandle Tryz.prog 34 = .pointer (some ⟨5, 34, none⟩) := by kernel_rfl
  rw [hh] at e5
  unfold HandleE
  simpa using World.var?_cell RL.et e5 0
theorem reads (os : Os) {H : Type} (enc : TypeId × Value → H) : ∃ places, DataW.whole enc Tryz.prog ((laidWorld os).forCall (fun _ _ => 0) ⟨#[], #[.agg #[.string ByteArray.empty, .slice none 0 0, .slice none 0 0]], []⟩).memory Tryz.f5.params.toList Rows.scopeLessSpec.vars false (#[.agg #[.string ByteArray.empty, .slice none 0 0, .slice none 0 0]] : Array Value).toList 8 = some ([.agg [.lit (.string []), .nil, .nil]], [], places) :=
  ⟨[], by kernel_rfl⟩
set_option maxRecDepth 100000 in
theorem lifted (os : Os) (started : os.Started) (H : Type) (enc : TypeId × Value → H) (F : Stop.Interp) :
    ReturnsInHanded {} Tryz.checked os 5 .any ((OpenSpec.ofChange Rows.scopeLessSpec).preRow enc Tryz.prog Tryz.f5 Rows.scopeLessRow.domain false Rows.scopeLessRow.laid) (((OpenSpec.ofChange Rows.scopeLessSpec).at F).post enc Tryz.prog Tryz.f5 false true false false) := by
  obtain ⟨places, hx⟩ := reads os enc
  refine returnsInHanded_of_row (C := Tryz.checked) (s := (OpenSpec.ofChange Rows.scopeLessSpec)) own started (by kernel_rfl) Tryz.func5
    (witness_row_at (enc := enc) (C := Tryz.checked) false (laidWorld os) #[.agg #[.string ByteArray.empty, .slice none 0 0, .slice none 0 0]] rfl (by kernel_rfl) (by kernel_rfl) (by kernel_rfl)
      (OpenSpec.preRow_of_cond 8 hx (by kernel_rfl) (fun k hk => by cases hk) (by kernel_rfl) (laid_met os _))) ?_
  intro W base args ds gs before hval0 hW _ hcond _ hL hsh _
  have hval : ∀ (j : Nat) t v, Tryz.f5.params[j]? = some t → args[j]? = some v → Value.okWide Tryz.prog W .any base t v := hval0
  have hW' := hW
  obtain ⟨p, q, hA0, hV, rfl, hfz, hnd⟩ := hW
  have hA : DataW.TrodAll enc Tryz.prog W 0 (fun _ => true) true Tryz.f5.params.toList args.toList ds p := hA0
  rw [Tryz.params5] at hA hval
  obtain ⟨v0, vs0, d0, ds0, p0, q0, hargs, rfl, rfl, h0, r0⟩ := trodAll_cons hA
  obtain ⟨rfl, rfl, rfl⟩ := trodAll_nil r0
  obtain rfl : args = #[v0] := by cases args; simp_all
  obtain ⟨rfl, rfl⟩ := trodVars_none hV
  have g0 := h0
  obtain ⟨m, ia, ic, da, dc, rfl, hm⟩ := open_mdl (hval 0 25 v0 rfl rfl) h0
  have hlt := hW'.lt
  clear hA0 hval0
  refine (scopeLess_c m ia ic da dc W hm (handle_of_laid hL)).mono fun e W' ⟨he, bel⟩ => ?_
  subst he
  have a0 := Below.trod laidOut (by kernel_rfl) (of_decide_eq_true (by kernel_rfl)) g0 bel (fun x hx => by first | exact absurd hx List.not_mem_nil | exact hlt x (by simp [hx]))
  exact ⟨_, rfl, _, _, _, [], _, [], hW', trodAll_mk1 (shut_bool Tryz.underlying4 _), (trodAll_cons_mk a0 trodAll_mk0), rfl, bel.frame _, fun h => by cases h⟩
theorem said : Rows.ScopeLessSaid :=
  OpenClaim.holds_of_cond 5 Tryz.f5 rfl rfl rfl rfl rfl rfl rfl ⟨rfl, rfl, rfl, rfl, rfl⟩ rfl rfl rfl rfl rfl (by kernel_rfl) Tryz.func5 (by kernel_rfl)
    (of_decide_eq_true (by kernel_rfl)) (by unfold Func.isWrapper; first | (rw [if_pos (by decide +kernel)]; kernel_rfl) | (rw [if_neg (by decide +kernel)]; exact ⟨rfl, rfl⟩))
    (fun os started H enc _ F => by rw [OpenClaim.pre_eq_preRow]; exact lifted os started H enc F)
end less
theorem less_holds : Rows.ScopeLessCardSaid :=
  Claim7.holds_tied_plain_at .later [] _ _ _ _ less.said (fun _ h => by cases h) (by kernel_rfl) (fun _ h => by cases h) scopeLess_row_tie rfl ⟨rfl, rfl⟩ (by kernel_rfl) rfl
    (fun f fn hf hfn => by
      obtain rfl : f = 5 := Option.some.inj ((show (Tryz.prog).funcNamed "merlon/merlonlaw07.ScopeLess" = some 5 by kernel_rfl).symm.trans hf) |>.symm
      obtain rfl : fn = Tryz.f5 := (Option.some.inj (Tryz.func5.symm.trans hfn)).symm
      exact ⟨by kernel_rfl, fun j t ht => by
        rw [Tryz.params5] at ht
        have h3 : t = 25 := by
          rcases j with _ | j
          · simpa using ht.symm
          · simp at ht
        rcases h3 with rfl
        exact (show (Tryz.prog).wantsStandIn 25 = false by kernel_rfl)⟩)
    (by kernel_rfl)
#print axioms less_holds
end Go.Proofs.YtjeldfipipkfiaaGreatDoor
