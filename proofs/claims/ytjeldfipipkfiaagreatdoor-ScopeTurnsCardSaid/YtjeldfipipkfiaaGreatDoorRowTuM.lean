/- The statement ScopeTurns: for any module and any number the law returns true and leaves its arguments as they were; the premise: errors.errorType is as the program lays it (the card ties this). -/
import Derived.Test.YtjeldfipipkfiaaGreatDoorUp7
import Derived.Test.YtjeldfipipkfiaaGreatDoorCpM
import Derived.Test.YtjeldfipipkfiaaGreatDoorModS
import Derived.Test.YtjeldfipipkfiaaGreatDoorRows
import Derived.Test.YtjeldfipipkfiaaGreatDoorCards
import Derived.Test.YtjeldfipipkfiaaGreatDoorTie
import Derived.Test.YtjeldfipipkfiaaGreatDoorOpenAll
import Derived.ProofKit
import Derived.OpenShut
import Derived.ShutString
import Derived.ChangeOld
import Derived.Below
import Derived.Deep.Slices
import Derived.Deep.Fields
import Derived.ChangeSame
import Derived.ChangeVars
import Derived.ChangeMaps
import Derived.JoinedOf
import Derived.LaidLaws
import Derived.LaidHandle
import Derived.HandedShaped
import Derived.Lib.LaidTab
import Derived.Stop.LaidErr
import Derived.Stop.Joined
import Derived.Deep.DeepLaidRun
import Derived.Deep.DeepHandedRow
import Derived.SevenTiedAt
namespace Go.Proofs.YtjeldfipipkfiaaGreatDoor
open Go.RowKit
set_option linter.unusedSimpArgs false
set_option linter.unusedVariables false
set_option linter.unnecessarySimpa false
theorem RL.nilS (a : Value) (w : World) : (binOp .eql 34 (.iface 93 a) .nilIface).run Tryz.prog w = .ok (.bool false) w := by kernel_rfl
theorem RL.nilN (w : World) : (binOp .eql 34 .nilIface .nilIface).run Tryz.prog w = .ok (.bool true) w := by kernel_rfl
theorem err_nil {w : World} {v : Value} {r : Option (Int × Option Nat)} (h : ErrAt w v r) (W : World) : (binOp .eql 34 v .nilIface).run Tryz.prog W = .ok (.bool r.isNone) W := by
  match r, h with
  | none, h => obtain rfl := h; exact RL.nilN W
  | some (c, none), h => obtain rfl := h; exact RL.nilC c W
  | some (c, some i), h => obtain ⟨b, rfl, -⟩ := h; exact RL.nilS _ W
theorem err_form {w : World} {v : Value} {r : Option (Int × Option Nat)} (h : ErrAt w v r) : (r.isNone = true ∧ v = .nilIface) ∨ (∃ c : Int, r.isNone = false ∧ v = .iface 70 (.int .i64 c)) ∨ (∃ b : Nat, r.isNone = false ∧ v = .iface 93 (.pointer (some ⟨b, 0, none⟩))) := by
  match r, h with
  | none, h => exact .inl ⟨rfl, h⟩
  | some (c, none), h => exact .inr (.inl ⟨c, rfl, h⟩)
  | some (c, some i), h => obtain ⟨b, h, -⟩ := h; exact .inr (.inr ⟨b, rfl, h⟩)
theorem DclsAt.drop {w : World} {B b o : Nat} {l : List Dcl} (h : DclsAt w B (some ⟨b, o, none⟩) l) (k : Nat) : DclsAt w B (some ⟨b, o + k * 9, none⟩) (l.drop k) := by
  obtain ⟨f, h1, h2⟩ := h
  refine ⟨fun i => f (k + i), ?_, fun i hi => ?_⟩
  · rcases h1 with h1 | ⟨b', o', hA, hb, hc⟩
    · exact .inl (by rw [List.length_drop]; omega)
    · cases hA
      refine .inr ⟨b, o + k * 9, rfl, hb, fun i hi j hj => ?_⟩
      rw [List.length_drop] at hi
      have := hc (k + i) (by omega) j hj
      rw [← this]
      congr 2
      rw [Nat.add_mul]; omega
  · rw [List.getElem_drop]
    exact h2 (k + i) (by rw [List.length_drop] at hi; omega)
theorem DclC.size {w : World} {B : Nat} {n : Dcl} {cs : Array Value} (h : DclC w B n cs) : cs.size = 9 := by
  obtain ⟨-, na, nc, sa, sc, rfl, -⟩ := h; rfl
theorem DclC.one {w : World} {B : Nat} {n : Dcl} {cs : Array Value} (h : DclC w B n cs) : ∀ u ∈ cs.toList, u.oneCell' = true := by
  obtain ⟨-, na, nc, sa, sc, rfl, -⟩ := h
  simp [dclCells, Value.oneCell']
/-- two rows, one behind the other, in memory of the call's own -/
theorem dcls_cat {w : World} {base B n1 n2 : Nat} {v : Value} {l1 l2 : List Dcl} {f1 f2 : Nat → Array Value} (e1 : l1.length = n1) (e2 : l2.length = n2) (h : w.ownsRow base 45 9 v (n1 + n2) (flatK f1 n1 ++ flatK f2 n2))
    (h1 : ∀ i (h : i < l1.length), DclC w B l1[i] (f1 i)) (h2 : ∀ i (h : i < l2.length), DclC w B l2[i] (f2 i)) (hB : B ≤ w.heap.size) : ∃ A c, v = .slice A (l1 ++ l2).length c ∧ (l1 ++ l2).length ≤ c ∧ DclsAt w w.heap.size A (l1 ++ l2) := by
  subst e1 e2
  rw [flatK_app] at h
  have hz : ∀ i, i < l1.length + l2.length → ((fun i => if i < l1.length then f1 i else f2 (i - l1.length)) i).size = 9 := fun i hi => by
    by_cases e : i < l1.length
    · simp only [if_pos e]; exact (h1 i e).size
    · simp only [if_neg e]; exact (h2 (i - l1.length) (by omega)).size
  obtain ⟨A, c, e1, e2, e3⟩ := own_rows h hz
  rw [← List.length_append] at e1 e2 e3
  refine ⟨A, c, e1, e2, _, e3, fun i hi => ?_⟩
  rw [List.length_append] at hi
  by_cases e : i < l1.length
  · rw [List.getElem_append_left e]
    simp only [if_pos e]
    exact (h1 i e).mono hB
  · rw [List.getElem_append_right (by omega)]
    simp only [if_neg e]
    exact (h2 (i - l1.length) (by omega)).mono hB
set_option maxRecDepth 100000 in
set_option maxHeartbeats 40000000 in
theorem scopeTurns_c (m : Mdl) (ia : Option Addr) (ic : Nat) (da : Option Addr) (dc : Nat) (at_ : Int) (w : World) (hm : MdlC w w.heap.size m ia ic da dc) (hg : HandleE w) (ha1 : -9223372036854775808 ≤ at_) (ha2 : at_ ≤ 9223372036854775807) :
    Calls Tryz.prog 4 #[.agg (mdlCells m ia ic da dc), .int .i64 at_] w fun e w' => e = .returned (.bool true) ∧ Below w.heap.size w w' := by
  have HM := Lib.hid hm
  have HG := Lib.hid hg
  have hup := fun W (hb : Below w.heap.size w W) => up7_c W (hg.under hb)
  have hfe := fun W (hb : Below w.heap.size w W) => fewM_c m ia ic da dc w.heap.size W (hm.under hb) hb.size
  have hcp := fun W (hb : Below w.heap.size w W) hf => copyM_c m ia ic da dc w.heap.size W (hm.under hb) hb.size hf
  have hck := fun W (hb : Below w.heap.size w W) => check_c m ia ic da dc w.heap.size W (hm.under hb) hb.size
  simp only [mdlCells] at hfe hcp hck ⊢
  have HUP := Lib.hid hup
  have HFE := Lib.hid hfe
  have HCP := Lib.hid hcp
  have HCK := Lib.hid hck
  clear hup hfe hcp hck hm hg
  go_enter Tryz.func4, Tryz.ntmps4
  go_upto_region 1 with fail
  obtain ⟨b1, hb1, hz1⟩ := laidN w #[.string m.name, .slice ia m.imps.length ic, .slice da m.decls.length dc] 25
  generalize w.alloc (.cells #[.string m.name, .slice ia m.imps.length ic, .slice da m.decls.length dc] 25) = W1 at b1 hb1 hz1 ⊢
  have D1 := Lib.hid b1
  have B1 := Lib.hid hb1
  clear b1 hb1
  obtain ⟨q, hq⟩ : ∃ q, fewM m = q := ⟨_, rfl⟩
  simp only [hq] at HFE HCP
  go_upto_region 3 with (first
    | (go_at_call 12; refine (HUP.out _ B1.out).mono ?_; rintro e W2 ⟨rfl, hb⟩; have B2 := Lib.hid (B1.out.trans (hb.mono B1.out.size)); have d2 := D1.out.under hb D1.out.lt; have D2 := Lib.hid d2; obtain ⟨x0, x1, x2⟩ := cellsT3 d2; have l2 := d2.lt; clear hb d2)
    | (go_at_call 13; refine (HFE.out _ B2.out).mono ?_; rintro e W3 ⟨rfl, hb⟩; have B3 := Lib.hid (B2.out.trans (hb.mono B2.out.size)); have d3 := D2.out.under hb D2.out.lt; have D3 := Lib.hid d3; clear hb x0 x1 x2 l2; obtain ⟨x0, x1, x2⟩ := cellsT3 d3; have l2 := d3.lt; clear d3))
  cases q
  · go_wp2_with fail
    go_ret
    exact ⟨rfl, B3.out⟩
  by_cases h0 : m.decls.length = 0
  · have h0I : (m.decls.length : Int) = 0 := by omega
    have h0b : ((m.decls.length : Int) == 0) = true := by rw [h0I]; rfl
    clear h0 h0I
    go_wp2_with fail
    go_ret
    exact ⟨rfl, B3.out⟩
  have h0b : ((m.decls.length : Int) == 0) = false := by simpa using h0
  have hfw := hq
  simp only [fewM, Bool.and_eq_true, decide_eq_true_eq, List.all_eq_true] at hfw
  obtain ⟨-, hl1, hl2, -⟩ := hfw
  have hn0 : (0 : Int) < (m.decls.length : Int) := by omega
  have hnne : (m.decls.length : Int) ≠ 0 := by omega
  clear hq
  go_upto_if 24 with fail
  go_cut [1] (fun v wx => ∃ a : Int, v = .int .i64 a ∧ 0 ≤ a ∧ a ≤ 9223372036854775807 ∧ wx = W3)
  case first =>
    by_cases hneg : at_ < 0
    · go_wp2_with fail
      go_meet
      exact ⟨-(at_ + 1), by go_num, by omega, by omega, rfl⟩
    · go_wp2_with fail
      go_meet
      exact ⟨at_, rfl, by omega, by omega, rfl⟩
  case rest =>
    obtain ⟨a, rfl, ha1, ha2, rfl⟩ := hcut
    have hk1 : 0 ≤ a % (m.decls.length : Int) := Int.emod_nonneg _ hnne
    have hk2 : a % (m.decls.length : Int) < m.decls.length := Int.emod_lt_of_pos _ hn0
    obtain ⟨k, hkk⟩ : ∃ k : Nat, a % (m.decls.length : Int) = (k : Int) := ⟨(a % (m.decls.length : Int)).toNat, by omega⟩
    rename World => W3
    go_upto_region 8 with fail
    rw [hkk] at hk2
    simp only [hkk]
    have hkI : (k : Int) < (m.decls.length : Int) := hk2
    have hk0 : (0 : Int) ≤ (k : Int) := by omega
    have hkn : k < m.decls.length := by omega
    clear hk1 hk2 hkk ha1 ha2
    go_upto_region 9 with (go_at_call 22; refine (HCP.out _ B3.out rfl).mono ?_; rintro e W4 ⟨ia', ic', da', dc', rfl, hm4, hb⟩; have HM4 := Lib.hid hm4; have B4 := Lib.hid (B3.out.trans (hb.mono B3.out.size)); have D4 := Lib.hid (D3.out.under hb D3.out.lt); clear hb hm4 x0 x1 x2 l2)
    obtain ⟨fd, hrow, hels⟩ := HM4.out.decls
    obtain ⟨b, o, hda, hbw⟩ : ∃ b o, da' = some ⟨b, o, none⟩ ∧ b < W4.heap.size := by
      rcases hrow with h | ⟨b, o, h1, h2, -⟩
      · omega
      · exact ⟨b, o, h1, h2⟩
    obtain rfl := hda
    have hcap := HM4.out.dcap
    have hcapI : (m.decls.length : Int) ≤ (dc' : Int) := by omega
    have hkcI : (k : Int) ≤ (dc' : Int) := by omega
    have hkd : ¬ dc' = k := by omega
    have hkle : (k : Int) ≤ (m.decls.length : Int) := by omega
    obtain ⟨b5, hb5, hz5⟩ := laidN W4 #[.string m.name, .slice ia' m.imps.length ic', .slice (some ⟨b, o, none⟩) m.decls.length dc'] 25
    generalize W4.alloc (.cells #[.string m.name, .slice ia' m.imps.length ic', .slice (some ⟨b, o, none⟩) m.decls.length dc'] 25) = W5 at b5 hb5 hz5 ⊢
    have HM5 := Lib.hid (HM4.out.under hb5)
    have B5 := Lib.hid (B4.out.trans (hb5.mono B4.out.size))
    have D5 := Lib.hid (D4.out.under hb5 D4.out.lt)
    have N5 := Lib.hid b5
    have HB45 := Lib.hid hb5
    have x2 := b5.cell 2
    simp at x2
    have l5 := b5.lt
    clear hb5 b5 hrow hels fd hcap hz5
    obtain ⟨f1, r1, el1⟩ := HM5.out.decls.drop k
    obtain ⟨f2, r2, el2⟩ := HM5.out.decls.take k
    have e1 : (m.decls.drop k).length = m.decls.length - k := List.length_drop ..
    have e2 : (m.decls.take k).length = k := by rw [List.length_take]; omega
    have S1 := Lib.hid (rows_src (by decide) r1 (fun i h => (el1 i h).size))
    have S2 := Lib.hid (rows_src (by decide) r2 (fun i h => (el2 i h).size))
    have L1 := Lib.hid (flatK_len (K := 9) (f := f1) (n := (m.decls.drop k).length) (fun i h => (el1 i h).size))
    have L2 := Lib.hid (flatK_len (K := 9) (f := f2) (n := (m.decls.take k).length) (fun i h => (el2 i h).size))
    have O1 := Lib.hid (flatK_one (K := 9) (f := f1) (n := (m.decls.drop k).length) (fun i h => (el1 i h).one))
    have O2 := Lib.hid (flatK_one (K := 9) (f := f2) (n := (m.decls.take k).length) (fun i h => (el2 i h).one))
    have EL1 := Lib.hid el1
    have EL2 := Lib.hid el2
    have E1 := Lib.hid e1
    have E2 := Lib.hid e2
    rw [e1] at S1 L1 O1
    rw [e2] at S2 L2 O2
    obtain ⟨i0, hi, hz0, hzz1, hzz2⟩ := info_parts infoDcl
    clear r1 r2 el1 el2 e1 e2
    go_upto_region 9 with fail
    refine wp_region_until [(5, fun w' => w'.cell? ⟨W4.heap.size, 2, none⟩ = some (.slice (some ⟨b, o, none⟩) m.decls.length dc')), (10, fun w' => w'.cell? ⟨W4.heap.size, 2, none⟩ = some (.slice (some ⟨b, o, none⟩) m.decls.length dc'))] (by kernel_rfl) (Until.cons (fun _ => x2) (Until.cons (fun _ => x2) Until.nil)) (fun hU => ?_)
    refine AnyU.take (i := 1) (v := ?_) rfl (by kernel_rfl) (by kernel_rfl) (by kernel_rfl) (fun _ _ _ h => h) (by kernel_rfl) (by assumption) (by rfl) ?_ (fun hV => ?_)
    rotate_left 1
    · (intro wq; go_simp; try with_reducible rfl)
    clear hU
    have hU := hV
    clear hV
    try simp only [Act.put, List.getElem_toArray, List.getElem_cons_zero, List.getElem_cons_succ, List.setIfInBounds_toArray, List.set_cons_zero, List.set_cons_succ]
    refine AnyU.loadc (i := 2) (d := 5) [4, 5] (Si := fun w' => w'.cell? ⟨W4.heap.size, 2, none⟩ = some (.slice (some ⟨b, o, none⟩) m.decls.length dc')) (v := ?_) rfl (by kernel_rfl) (by kernel_rfl) (by kernel_rfl) (fun _ _ _ h => h) (by kernel_rfl) (by assumption) (by kernel_rfl) rfl (by simp) (by rfl) ?_ (fun hV => ?_)
    rotate_left 1
    · (intro wq hq; go_simp; try with_reducible rfl)
    clear hU
    have hU := hV
    clear hV
    try simp only [Act.put, List.getElem_toArray, List.getElem_cons_zero, List.getElem_cons_succ, List.setIfInBounds_toArray, List.set_cons_zero, List.set_cons_succ]
    refine AnyU.take (i := 3) (v := ?_) rfl (by kernel_rfl) (by kernel_rfl) (by kernel_rfl) (fun _ _ _ h => h) (by kernel_rfl) (by assumption) (by rfl) ?_ (fun hV => ?_)
    rotate_left 1
    · (intro wq; go_simp; try with_reducible rfl)
    clear hU
    have hU := hV
    clear hV
    try simp only [Act.put, List.getElem_toArray, List.getElem_cons_zero, List.getElem_cons_succ, List.setIfInBounds_toArray, List.set_cons_zero, List.set_cons_succ]
    refine AnyU.take (i := 4) (v := ?_) rfl (by kernel_rfl) (by kernel_rfl) (by kernel_rfl) (fun _ _ _ h => h) (by kernel_rfl) (by assumption) (by rfl) ?_ (fun hV => ?_)
    rotate_left 1
    · (intro wq; go_simp; try with_reducible rfl)
    clear hU
    have hU := hV
    clear hV
    try simp only [Act.put, List.getElem_toArray, List.getElem_cons_zero, List.getElem_cons_succ, List.setIfInBounds_toArray, List.set_cons_zero, List.set_cons_succ]
    refine AnyU.take (i := 6) (v := ?_) rfl (by kernel_rfl) (by kernel_rfl) (by kernel_rfl) (fun _ _ _ h => h) (by kernel_rfl) (by assumption) (by rfl) ?_ (fun hV => ?_)
    rotate_left 1
    · (intro wq; go_simp; try with_reducible rfl)
    clear hU
    have hU := hV
    clear hV
    try simp only [Act.put, List.getElem_toArray, List.getElem_cons_zero, List.getElem_cons_succ, List.setIfInBounds_toArray, List.set_cons_zero, List.set_cons_succ]
    refine AnyU.loadc (i := 7) (d := 10) [9, 10] (Si := fun w' => w'.cell? ⟨W4.heap.size, 2, none⟩ = some (.slice (some ⟨b, o, none⟩) m.decls.length dc')) (v := ?_) rfl (by kernel_rfl) (by kernel_rfl) (by kernel_rfl) (fun _ _ _ h => h) (by kernel_rfl) (by assumption) (by kernel_rfl) rfl (by simp) (by rfl) ?_ (fun hV => ?_)
    rotate_left 1
    · (intro wq hq; go_simp; try with_reducible rfl)
    clear hU
    have hU := hV
    clear hV
    try simp only [Act.put, List.getElem_toArray, List.getElem_cons_zero, List.getElem_cons_succ, List.setIfInBounds_toArray, List.set_cons_zero, List.set_cons_succ]
    refine AnyU.take (i := 8) (v := ?_) rfl (by kernel_rfl) (by kernel_rfl) (by kernel_rfl) (fun _ _ _ h => h) (by kernel_rfl) (by assumption) (by rfl) ?_ (fun hV => ?_)
    rotate_left 1
    · (intro wq; go_simp; try with_reducible rfl)
    clear hU
    have hU := hV
    clear hV
    try simp only [Act.put, List.getElem_toArray, List.getElem_cons_zero, List.getElem_cons_succ, List.setIfInBounds_toArray, List.set_cons_zero, List.set_cons_succ]
    refine AnyU.take (i := 9) (v := ?_) rfl (by kernel_rfl) (by kernel_rfl) (by kernel_rfl) (fun _ _ _ h => h) (by kernel_rfl) (by assumption) (by rfl) ?_ (fun hV => ?_)
    rotate_left 1
    · (intro wq; go_simp; try with_reducible rfl)
    clear hU
    have hU := hV
    clear hV
    try simp only [Act.put, List.getElem_toArray, List.getElem_cons_zero, List.getElem_cons_succ, List.setIfInBounds_toArray, List.set_cons_zero, List.set_cons_succ]
    try rw [if_neg hkd]
    refine AnyU.ready1 (i := 0) (by kernel_rfl) (AnyU.one rfl fun K hK => ?_)
    go_simp
    obtain ⟨hbk, hbX, hsX⟩ := laidD W5 #[] 45
    have hoX : (W5.alloc (.cells #[] 45)).drew.ownsRow W5.heap.size 45 9 (.slice (some ⟨W5.heap.size, 0, none⟩) 0 0) 0 [] := World.ownsRow_lit (base := W5.heap.size) (e := 45) (size := 9) W5 #[] 0 (Nat.le_refl _) (by unfold maxLen; omega) rfl
    generalize hX3 : (W5.alloc (.cells #[] 45)).drew = X at hbk hbX hsX hoX ⊢
    clear hX3 hbk
    have x2 := (hbX.cell (p := ⟨W4.heap.size, 2, none⟩) l5).trans x2
    have lX : W4.heap.size < X.heap.size := by omega
    have HBX := Lib.hid hbX
    have HOX := Lib.hid hoX
    have S1X := Lib.hid (fun j u hj => (hbX.cell (p := (⟨b, o + k * 9, none⟩ : Addr).add j) (by rw [addN]; show b < W5.heap.size; omega)).trans (S1.out j u hj))
    have S2X := Lib.hid (fun j u hj => (hbX.cell (p := (⟨b, o, none⟩ : Addr).add j) (by rw [addN]; show b < W5.heap.size; omega)).trans (S2.out j u hj))
    clear hbX hoX
    refine hK.out _ _ (Until.cons (fun _ => x2) (Until.cons (fun _ => x2) Until.nil)) (fun hV => ?_)
    clear hK K
    clear hU
    have hU := hV
    clear hV
    try simp only [Act.put, List.getElem_toArray, List.getElem_cons_zero, List.getElem_cons_succ, List.setIfInBounds_toArray, List.set_cons_zero, List.set_cons_succ]
    refine AnyU.ready1 (i := 5) (by kernel_rfl) (AnyU.one rfl fun K hK => ?_)
    refine step_append_own2 rfl _ _ 23 rfl W5.heap.size 45 i0 (.agg #[.int .i64 0, .string { data := #[] }, .int .i64 0, .string { data := #[] }, .int .i64 0, .string { data := #[] }, .string { data := #[] }, .slice none 0 0, .slice none 0 0]) 9 136 Tryz.underlying23 hi hz0 hzz1 hzz2 rfl (by decide) (.slice (some ⟨W5.heap.size, 0, none⟩) 0 0) 0 [] rfl HOX.out ⟨b, o + k * 9, none⟩ (m.decls.length - k) (dc' - k) (flatK f1 (m.decls.length - k)) rfl L1.out S1X.out O1.out (by unfold maxLen; omega) (by omega) (by omega) ?_
    intro v1 w1 hown1 hg1 hfr1
    simp only [Nat.zero_add, List.nil_append] at hown1
    have hne1 : ∀ q, q < W5.heap.size → some q ≠ (Value.slice (some ⟨W5.heap.size, 0, none⟩) 0 0).ownBlock := fun q hq e => by
      have e : q = W5.heap.size := by simpa [Value.ownBlock] using e
      omega
    have x2 := (hg1.cell_far ⟨W4.heap.size, 2, none⟩ lX (hne1 _ l5)).trans x2
    have S2W := Lib.hid (fun j u hj => (hg1.cell_far ((⟨b, o, none⟩ : Addr).add j) (by rw [addN]; show b < X.heap.size; omega) (hne1 _ (by rw [addN]; show b < W5.heap.size; omega))).trans (S2X.out j u hj))
    have HG1 := Lib.hid hg1
    have HO1 := Lib.hid hown1
    have hs1 := hg1.size
    clear hown1 hg1 hfr1 hne1
    refine hK.out _ _ (Until.cons (fun h => absurd h (by decide)) (Until.cons (fun _ => x2) Until.nil)) (fun hV => ?_)
    clear hK K
    clear hU
    have hU := hV
    clear hV
    try simp only [Act.put, List.getElem_toArray, List.getElem_cons_zero, List.getElem_cons_succ, List.setIfInBounds_toArray, List.set_cons_zero, List.set_cons_succ]
    refine AnyU.ready1 (i := 10) (by kernel_rfl) (AnyU.one rfl fun K hK => ?_)
    refine step_append_own2 rfl _ _ 23 rfl W5.heap.size 45 i0 (.agg #[.int .i64 0, .string { data := #[] }, .int .i64 0, .string { data := #[] }, .int .i64 0, .string { data := #[] }, .string { data := #[] }, .slice none 0 0, .slice none 0 0]) 9 136 Tryz.underlying23 hi hz0 hzz1 hzz2 rfl (by decide) v1 (m.decls.length - k) (flatK f1 (m.decls.length - k)) rfl HO1.out ⟨b, o, none⟩ k dc' (flatK f2 k) rfl L2.out S2W.out O2.out (by unfold maxLen; omega) (by omega) (by omega) ?_
    intro v2 w2 hown2 hg2 hfr2
    have hlo1 : ∀ q, v1.ownBlock = some q → W5.heap.size ≤ q := fun q hq => (owns_lt HO1.out hq).1
    have hbW : Below W5.heap.size W5 w2 := (HBX.out.grown HG1.out HBX.out.size (fun q hq => by
      have hq : W5.heap.size = q := by simpa [Value.ownBlock] using hq
      omega)).grown hg2 (by omega) hlo1
    have hN2 := N5.out.under hbW N5.out.lt
    have hLL : ∃ L, m.decls.drop k ++ m.decls.take k = L := ⟨_, rfl⟩
    obtain ⟨L, hL⟩ := hLL
    have hE1 : ∀ i (h : i < (m.decls.drop k).length), DclC w2 W4.heap.size (m.decls.drop k)[i] (f1 i) := fun i hi => (EL1.out i hi).keep fun p hp => hbW.cell (by omega)
    have hE2 : ∀ i (h : i < (m.decls.take k).length), DclC w2 W4.heap.size (m.decls.take k)[i] (f2 i) := fun i hi => (EL2.out i hi).keep fun p hp => hbW.cell (by omega)
    have hcat := dcls_cat E1.out E2.out hown2 hE1 hE2 (by have := hbW.size; omega)
    rw [hL] at hcat
    obtain ⟨A, c, rfl, -, -⟩ := hcat
    have x2' := hN2.cell 2
    have y2' := hN2.free 2
    have l2' := hN2.lt
    simp at x2'
    have HO2 := Lib.hid hown2
    have HBW := Lib.hid hbW
    have HN2 := Lib.hid hN2
    have HL := Lib.hid hL
    have HE1 := Lib.hid hE1
    have HE2 := Lib.hid hE2
    clear hown2 hg2 hfr2 hlo1 hbW hN2 hL hE1 hE2 x2
    refine hK.out _ _ (Until.offT (by kernel_rfl)) (fun hV => ?_)
    clear hK K
    clear hU
    have hU := hV
    clear hV
    try simp only [Act.put, List.getElem_toArray, List.getElem_cons_zero, List.getElem_cons_succ, List.setIfInBounds_toArray, List.set_cons_zero, List.set_cons_succ]
    refine AnyU.take (i := 11) (v := ?_) rfl (by kernel_rfl) (by kernel_rfl) (by kernel_rfl) (fun _ _ _ h => h) (by kernel_rfl) (by assumption) (by rfl) ?_ (fun hV => ?_)
    rotate_left 1
    · (intro wq; go_simp; try with_reducible rfl)
    clear hU
    have hU := hV
    clear hV
    try simp only [Act.put, List.getElem_toArray, List.getElem_cons_zero, List.getElem_cons_succ, List.setIfInBounds_toArray, List.set_cons_zero, List.set_cons_succ]
    refine AnyU.ready1 (i := 12) (by kernel_rfl) (AnyU.one rfl fun K hK => ?_)
    go_simp
    have hbf : Below W4.heap.size W5 (w2.setCell ⟨W4.heap.size, 2, none⟩ (.slice A L.length c)) := (HBW.out.mono (Nat.le_of_lt N5.out.lt)).setCell (p := ⟨W4.heap.size, 2, none⟩) (Nat.le_refl _) _
    have hof := owns_keep (w' := w2.setCell ⟨W4.heap.size, 2, none⟩ (.slice A L.length c)) HO2.out fun g hg => Below.heap_setCell w2 ⟨W4.heap.size, 2, none⟩ (.slice A L.length c) g (by have := (owns_lt HO2.out hg).1; show g ≠ W4.heap.size; omega)
    have hnf : Blk (w2.setCell ⟨W4.heap.size, 2, none⟩ (.slice A L.length c)) W4.heap.size #[.string m.name, .slice ia' m.imps.length ic', .slice A L.length c] 25 := by have := HN2.out.set 2 (.slice A L.length c); simpa using this
    have hd1 : Blk (w2.setCell ⟨W4.heap.size, 2, none⟩ (.slice A L.length c)) w.heap.size #[.string m.name, .slice ia m.imps.length ic, .slice da m.decls.length dc] 25 := (D5.out.under HBW.out D5.out.lt).far _ _ (by have := D4.out.lt; show w.heap.size ≠ W4.heap.size; omega)
    generalize w2.setCell ⟨W4.heap.size, 2, none⟩ (.slice A L.length c) = Wf at hbf hof hnf hd1 ⊢
    refine hK.out _ _ (Until.offT (by kernel_rfl)) (fun hV => ?_)
    clear hK K
    clear hU
    have hU := hV
    clear hV
    try simp only [Act.put, List.getElem_toArray, List.getElem_cons_zero, List.getElem_cons_succ, List.setIfInBounds_toArray, List.set_cons_zero, List.set_cons_succ]
    refine AnyU.done (by kernel_rfl) ?_
    clear hU x2' y2' l2'
    have BF := Lib.hid (B4.out.trans ((HB45.out.trans (hbf.mono (Nat.le_refl _))).mono B4.out.size))
    have hcat := dcls_cat E1.out E2.out hof (fun i hi => (EL1.out i hi).keep fun p hp => hbf.cell hp) (fun i hi => (EL2.out i hi).keep fun p hp => hbf.cell hp) (by have := hbf.size; omega)
    rw [HL.out] at hcat
    obtain ⟨A2, c2, hcc, hlc, hdf⟩ := hcat
    cases hcc
    have hL2 : L.length = m.decls.length := by rw [← HL.out, List.length_append, E1.out, E2.out]; omega
    have hm2 : MdlC Wf Wf.heap.size ⟨m.name, m.imps, L⟩ ia' ic' A c := ⟨HM5.out.name, (HM5.out.imps.keep fun p hp => hbf.cell hp).mono (by have := hbf.size; omega), hdf, HM5.out.nImps, by show L.length ≤ maxLen; rw [hL2]; exact HM5.out.nDecls, HM5.out.icap, hlc⟩
    have hck2 := fun W (hb : Below Wf.heap.size Wf W) => check_c ⟨m.name, m.imps, L⟩ ia' ic' A c Wf.heap.size W (hm2.under hb) hb.size
    simp only [mdlCells] at hck2
    have HCK2 := Lib.hid hck2
    have hturn : (checkF m).isNone = (checkF ⟨m.name, m.imps, L⟩).isNone := by
      have h := turnsC (m := m) (m' := ⟨m.name, m.imps, L⟩) rfl rfl (by
        show m.decls.Perm L
        rw [← HL.out]
        have := List.perm_append_comm (l₁ := m.decls.take k) (l₂ := m.decls.drop k)
        rwa [List.take_append_drop] at this)
      rw [Bool.eq_iff_iff, Option.isNone_iff_eq_none, Option.isNone_iff_eq_none]
      exact h
    have HT := Lib.hid hturn
    have NF := Lib.hid hnf
    obtain ⟨x0, x1, x2⟩ := cellsT3 hd1
    have l1 := hd1.lt
    clear hck2 hturn hbf hof hnf hd1 hm2 hdf hlc hL2
    go_upto_region 12 with (first
      | (go_at_call 15; have hno := BG; refine (HCK2.out _ BG2.out).mono ?_; rintro e Wh ⟨v4, rfl, he4, hb⟩; have HE4 := Lib.hid he4; have BH := Lib.hid (BG.out.trans (hb.mono BG.out.size)); clear hb he4 y0 y1 y2 l3 hno)
      | (go_at_call 15; refine (HCK.out _ BF.out).mono ?_; rintro e Wg ⟨v3, rfl, he3, hb⟩; have HE3 := Lib.hid he3; have BG := Lib.hid (BF.out.trans (hb.mono BF.out.size)); have BG2 := Lib.hid hb; have nf := NF.out.under hb NF.out.lt; clear hb he3 x0 x1 x2 l1; obtain ⟨y0, y1, y2⟩ := cellsT3 nf; have l3 := nf.lt; clear nf))
    have lN := RL.nilN
    have lC := RL.nilC
    have lS := RL.nilS
    have hT := HT.out
    rcases err_form HE3.out with ⟨n3, rfl⟩ | ⟨c3, n3, rfl⟩ | ⟨b3, n3, rfl⟩ <;> rcases err_form HE4.out with ⟨n4, rfl⟩ | ⟨c4, n4, rfl⟩ | ⟨b4, n4, rfl⟩
    all_goals rw [n3, n4] at hT
    all_goals first
      | (exfalso; exact absurd hT (by decide))
      | (clear hT n3 n4; go_quiet (fail); go_wp2_with fail; go_ret; exact ⟨rfl, below_drewN BH.out _⟩)
end Go.Proofs.YtjeldfipipkfiaaGreatDoor
namespace Go.Proofs.YtjeldfipipkfiaaGreatDoor
open Go.ChangeShapes Go.WideShapes Go.ChangeAt Go.RowKit
open Go.ChangeMaps (open_string shut_string)
namespace turns
theorem own : ownKnob Tryz.prog.godebug = none := by kernel_rfl
theorem laidOut : laidOutB Tryz.prog = true := by kernel_rfl
def put0 (h : Array Obj) (g : Nat) (cs : Array Value) : Array Obj := h.modify g fun
  | .cells _ t frozen => .cells cs t frozen
  | o => o
/-- a world that meets the condition: the settled one, the listed tables laid -/
noncomputable def laidWorld (os : Os) : World :=
  let w0 := World.holding Tryz.prog os ⟨#[], #[], []⟩
  { w0 with heap := put0 (w0.heap) 0 #[.iface 207 (.agg #[.pointer (some ⟨5, 34, none⟩)])] }
theorem laid_met (os : Os) (args : Array Value) : laidMetH Tryz.prog Rows.scopeTurnsRow.laid ((laidWorld os).forCall (fun _ _ => 0) ⟨#[], args, []⟩).memory :=
  laidMetH_of_parts (laidMet_nil _ _) (by kernel_rfl)
theorem RL.et : (Tryz.prog).globalNamed "errors.errorType" = some 0 := by kernel_rfl
theorem RL.rt : ((Tryz.prog).cutTypes.find? (·.1 == "internal/reflectlite.rtype")).map (·.2) = some 207 := by kernel_rfl
theorem RL.oneRow : ((List.range (Tryz.prog).types.size).filter fun t => (Tryz.prog).rowNamed t [101, 114, 114, 111, 114]) = [34] := by kernel_rfl
/-- what the condition gives a walk: the variable's one cell -/
theorem handle_of_laid {W : World} (h : laidMetH Tryz.prog Rows.scopeTurnsRow.laid W) : HandleE W := by
  have h' : laidMet Tryz.prog [] W ∧ handlesMet Tryz.prog Rows.scopeTurnsRow.laid W := h
  obtain ⟨name, u, ty, e1, e2, e3, e4, e5⟩ := h'.2 _ (List.mem_singleton.2 rfl)
  have en : name = [101, 114, 114, 111, 114] := (Option.some.inj e1).symm
  subst en
  obtain rfl := Option.some.inj (RL.rt.symm.trans e2)
  have hm : ty ∈ (List.range (Tryz.prog).types.size).filter fun t => (Tryz.prog).rowNamed t [101, 114, 114, 111, 114] := List.mem_filter.2 ⟨List.mem_range.2 e3, e4⟩
  rw [RL.oneRow] at hm
  obtain rfl := List.mem_singleton.1 hm
  have hh : typeHandle Tryz.prog 34 = .pointer (some ⟨5, 34, none⟩) := by kernel_rfl
  rw [hh] at e5
  unfold HandleE
  simpa using World.var?_cell RL.et e5 0
theorem reads (os : Os) {H : Type} (enc : TypeId × Value → H) : ∃ places, DataW.whole enc Tryz.prog ((laidWorld os).forCall (fun _ _ => 0) ⟨#[], #[.agg #[.string ByteArray.empty, .slice none 0 0, .slice none 0 0], .int .i64 0], []⟩).memory Tryz.f4.params.toList Rows.scopeTurnsSpec.vars false (#[.agg #[.string ByteArray.empty, .slice none 0 0, .slice none 0 0], .int .i64 0] : Array Value).toList 8 = some ([.agg [.lit (.string []), .nil, .nil], .lit (.int .i64 0)], [], places) :=
  ⟨[], by kernel_rfl⟩
set_option maxRecDepth 100000 in
theorem lifted (os : Os) (started : os.Started) (H : Type) (enc : TypeId × Value → H) (F : Stop.Interp) :
    ReturnsInHanded {} Tryz.checked os 4 .any ((OpenSpec.ofChange Rows.scopeTurnsSpec).preRow enc Tryz.prog Tryz.f4 Rows.scopeTurnsRow.domain false Rows.scopeTurnsRow.laid) (((OpenSpec.ofChange Rows.scopeTurnsSpec).at F).post enc Tryz.prog Tryz.f4 false true false false) := by
  obtain ⟨places, hx⟩ := reads os enc
  refine returnsInHanded_of_row (C := Tryz.checked) (s := (OpenSpec.ofChange Rows.scopeTurnsSpec)) own started (by kernel_rfl) Tryz.func4
    (witness_row_at (enc := enc) (C := Tryz.checked) false (laidWorld os) #[.agg #[.string ByteArray.empty, .slice none 0 0, .slice none 0 0], .int .i64 0] rfl (by kernel_rfl) (by kernel_rfl) (by kernel_rfl)
      (OpenSpec.preRow_of_cond 8 hx (by kernel_rfl) (fun k hk => by cases hk) (by kernel_rfl) (laid_met os _))) ?_
  intro W base args ds gs before hval0 hW _ hcond _ hL hsh _
  have hval : ∀ (j : Nat) t v, Tryz.f4.params[j]? = some t → args[j]? = some v → Value.okWide Tryz.prog W .any base t v := hval0
  have hW' := hW
  obtain ⟨p, q, hA0, hV, rfl, hfz, hnd⟩ := hW
  have hA : DataW.TrodAll enc Tryz.prog W 0 (fun _ => true) true Tryz.f4.params.toList args.toList ds p := hA0
  rw [Tryz.params4] at hA hval
  obtain ⟨v0, vs0, d0, ds0, p0, q0, hargs, rfl, rfl, h0, r0⟩ := trodAll_cons hA
  obtain ⟨v1, vs1, d1, ds1, p1, q1, rfl, rfl, rfl, h1, r1⟩ := trodAll_cons r0
  obtain ⟨rfl, rfl, rfl⟩ := trodAll_nil r1
  obtain rfl : args = #[v0, v1] := by cases args; simp_all
  obtain ⟨rfl, rfl⟩ := trodVars_none hV
  have g0 := h0
  have g1 := h1
  obtain ⟨m, ia, ic, da, dc, rfl, hm⟩ := open_mdl (hval 0 25 v0 rfl rfl) h0
  obtain ⟨at_, rfl, rfl, rfl, hwf1⟩ := open_int Tryz.underlying3 (hval 1 3 v1 rfl rfl) h1
  have hb1 := bounds_i64 hwf1
  have hlt := hW'.lt
  clear hA0 hval0
  refine (scopeTurns_c m ia ic da dc at_ W hm (handle_of_laid hL) hb1.1 hb1.2).mono fun e W' ⟨he, bel⟩ => ?_
  subst he
  have a0 := Below.trod laidOut (by kernel_rfl) (of_decide_eq_true (by kernel_rfl)) g0 bel (fun x hx => by first | exact absurd hx List.not_mem_nil | exact hlt x (by simp [hx]))
  have a1 := Below.trod laidOut (by kernel_rfl) (of_decide_eq_true (by kernel_rfl)) g1 bel (fun x hx => by first | exact absurd hx List.not_mem_nil | exact hlt x (by simp [hx]))
  exact ⟨_, rfl, _, _, _, [], _, [], hW', trodAll_mk1 (shut_bool Tryz.underlying4 _), (trodAll_cons_mk a0 (trodAll_cons_mk a1 trodAll_mk0)), rfl, bel.frame _, fun h => by cases h⟩
theorem said : Rows.ScopeTurnsSaid :=
  OpenClaim.holds_of_cond 4 Tryz.f4 rfl rfl rfl rfl rfl rfl rfl ⟨rfl, rfl, rfl, rfl, rfl⟩ rfl rfl rfl rfl rfl (by kernel_rfl) Tryz.func4 (by kernel_rfl)
    (of_decide_eq_true (by kernel_rfl)) (by unfold Func.isWrapper; first | (rw [if_pos (by decide +kernel)]; kernel_rfl) | (rw [if_neg (by decide +kernel)]; exact ⟨rfl, rfl⟩))
    (fun os started H enc _ F => by rw [OpenClaim.pre_eq_preRow]; exact lifted os started H enc F)
end turns
theorem turns_holds : Rows.ScopeTurnsCardSaid :=
  Claim7.holds_tied_plain_at .later [] _ _ _ _ turns.said (fun _ h => by cases h) (by kernel_rfl) (fun _ h => by cases h) scopeTurns_row_tie rfl ⟨rfl, rfl⟩ (by kernel_rfl) rfl
    (fun f fn hf hfn => by
      obtain rfl : f = 4 := Option.some.inj ((show (Tryz.prog).funcNamed "merlon/merlonlaw07.ScopeTurns" = some 4 by kernel_rfl).symm.trans hf) |>.symm
      obtain rfl : fn = Tryz.f4 := (Option.some.inj (Tryz.func4.symm.trans hfn)).symm
      exact ⟨by kernel_rfl, fun j t ht => by
        rw [Tryz.params4] at ht
        have h3 : t = 25 ∨ t = 3 := by
          rcases j with _ | _ | j
          · left; simpa using ht.symm
          · right; simpa using ht.symm
          · simp at ht
        rcases h3 with rfl | rfl
        · exact (show (Tryz.prog).wantsStandIn 25 = false by kernel_rfl)
        · exact (show (Tryz.prog).wantsStandIn 3 = false by kernel_rfl)⟩)
    (by kernel_rfl)
#print axioms turns_holds
end Go.Proofs.YtjeldfipipkfiaaGreatDoor
