/- The contract of merlonref09.Bound at lists and functions. -/
import Derived.Test.YtalpmjmifcofeaaPart
import Derived.Test.YtalpmjmifcofeaaRBnd
import Derived.Test.YtalpmjmifcofeaaRegM
import Derived.Deep.DeepCutAuto
import Derived.Deep.Cut
namespace Go.Proofs.Ytalpmjmifcofeaa
open Go.RowKit
set_option linter.unusedSimpArgs false
set_option linter.unusedVariables false
theorem keep7 {w w' : World} {b o : Nat} {v0 v1 v2 v3 v4 v5 v6 : Value} (h : Below w.heap.size w w') (hb : b < w.heap.size) (hc : w.cell? ⟨b, o, none⟩ = some v0 ∧ w.cell? ⟨b, o + 1, none⟩ = some v1 ∧ w.cell? ⟨b, o + 2, none⟩ = some v2 ∧ w.cell? ⟨b, o + 3, none⟩ = some v3 ∧ w.cell? ⟨b, o + 4, none⟩ = some v4 ∧ w.cell? ⟨b, o + 5, none⟩ = some v5 ∧ w.cell? ⟨b, o + 6, none⟩ = some v6) :
    w'.cell? ⟨b, o, none⟩ = some v0 ∧ w'.cell? ⟨b, o + 1, none⟩ = some v1 ∧ w'.cell? ⟨b, o + 2, none⟩ = some v2 ∧ w'.cell? ⟨b, o + 3, none⟩ = some v3 ∧ w'.cell? ⟨b, o + 4, none⟩ = some v4 ∧ w'.cell? ⟨b, o + 5, none⟩ = some v5 ∧ w'.cell? ⟨b, o + 6, none⟩ = some v6 :=
  ⟨(h.cell hb).trans hc.1, (h.cell hb).trans hc.2.1, (h.cell hb).trans hc.2.2.1, (h.cell hb).trans hc.2.2.2.1, (h.cell hb).trans hc.2.2.2.2.1, (h.cell hb).trans hc.2.2.2.2.2.1, (h.cell hb).trans hc.2.2.2.2.2.2⟩
set_option maxRecDepth 100000 in
set_option maxHeartbeats 40000000 in
theorem rbound_parts4 (r : Bool → Ty → Ty → Option Ty) (a b : Ty) (up : Bool) (hk : a.kind = 4) (hk' : b.kind = 4) (hla : a.subs.length ≤ 20) (hbd : ∀ x y v, x ∈ a.subs → y ∈ b.subs → RBoundAt x y v (r v x y)) : RBoundAt a b up (partsR r up a b) := by
  intro cs cs' B w ha hb hB
  have HI := Lib.hid hbd
  obtain ⟨na, nc, sa, sc, f, rfl, hfa, hn, hs, -, -, hsub⟩ := ha.inv
  obtain ⟨na', nc', sa', sc', f', rfl, -, hn', hs', -, -, hsub'⟩ := hb.inv
  have HF := Lib.hid hfa
  have HS := Lib.hid hs
  have HU := Lib.hid hsub
  have HS' := Lib.hid hs'
  have HU' := Lib.hid hsub'
  have HK := Lib.hid hk
  have HK' := Lib.hid hk'
  clear ha hb hn hs hsub hn' hs' hsub' hbd hfa
  obtain ⟨iS, hiS, hzS0, hzS1, hzS2⟩ := info_parts info_type
  go_enter Try.func21, Try.ntmps21
  simp only [tyCells]
  rw [hk, hk']
  clear hk hk'
  by_cases hlen : a.subs.length = b.subs.length
  case neg =>
    have hne : ((a.subs.length : Int) != (b.subs.length : Int)) = true := by simp; omega
    go_wp2_with fail
    refine bodyPost_ret (by simp [results, Try.results21, go_sem]; try rfl) rfl ?_
    have hp : partsR r up a b = none := by unfold partsR; rw [if_neg hlen]
    exact ⟨⟨zeroTy, _, (by rw [hp]; rfl), fun x h => (by rw [hp] at h; cases h), (zero_tyc _ B).toM.mono fun b hb => Or.inl hb⟩, ((((Below.refl _ _).alloc (Nat.le_refl _) _).alloc (by simp) _).alloc (by simp; omega) _).alloc (by simp; omega) _⟩
  have hne : ((a.subs.length : Int) != (b.subs.length : Int)) = false := by simp; omega
  have HLE := Lib.hid hlen
  clear hlen
  go_wp2_with fail
  have h4 := boxes4 w #[.int .i64 4, .string a.pkg, .int .i64 a.major, .string a.mod, .string a.name, .slice na a.names.length nc, .slice sa a.subs.length sc] #[.int .i64 4, .string b.pkg, .int .i64 b.major, .string b.mod, .string b.name, .slice na' b.names.length nc', .slice sa' b.subs.length sc'] #[.int .i64 0, .string { data := #[] }, .int .i64 0, .string { data := #[] }, .string { data := #[] }, .slice none 0 0, .slice none 0 0] #[.int .i64 4, .string { data := #[] }, .int .i64 0, .string { data := #[] }, .string { data := #[] }, .slice none 0 0, .slice none 0 0] 25
  generalize ((((w.alloc (.cells #[.int .i64 4, .string a.pkg, .int .i64 a.major, .string a.mod, .string a.name, .slice na a.names.length nc, .slice sa a.subs.length sc] 25)).alloc (.cells #[.int .i64 4, .string b.pkg, .int .i64 b.major, .string b.mod, .string b.name, .slice na' b.names.length nc', .slice sa' b.subs.length sc'] 25)).alloc (.cells #[.int .i64 0, .string { data := #[] }, .int .i64 0, .string { data := #[] }, .string { data := #[] }, .slice none 0 0, .slice none 0 0] 25)).alloc (.cells #[.int .i64 4, .string { data := #[] }, .int .i64 0, .string { data := #[] }, .string { data := #[] }, .slice none 0 0, .slice none 0 0] 25)) = W at h4 ⊢
  obtain ⟨x0, x1, x2, x3, xs, xb⟩ := h4
  rw [← HK.out] at x0 x3
  rw [← HK'.out] at x1
  have hst : PartRel w W a b na nc sa sc na' nc' sa' sc' B r up (.slice none 0 0) [] [] 0 := ⟨xb, by omega, x0, x1, x2, x3, Row1.nil _ _ _, rfl⟩
  have HST := Lib.hid hst
  clear x0 x1 x2 x3 xs xb hst hne
  go_loopw [9] (fun i wr => ∃ (k : Nat) (sv : Value) (L : List Ty) (F : List (Array Value)), k ≤ a.subs.length ∧ i = .int .i64 k ∧ PartRel w wr a b na nc sa sc na' nc' sa' sc' B r up sv L F k) (fun i _ => a.subs.length - (intOf i).toNat)
  case atStart => exact ⟨0, _, _, _, Nat.zero_le _, rfl, HST.out⟩
  case round =>
    clear HST
    obtain ⟨k, sv, L, F, hk, rfl, hr⟩ := hrel
    have HR := Lib.hid hr
    have hacc := hr.below
    have hsz := hr.size
    have a6 := hr.boxa.cell 6
    have q6 := hr.boxb.cell 6
    have a0 := hr.boxa.cell 0
    simp [tyCells] at a6 q6 a0
    rw [HK.out] at a0
    by_cases hlt : k < a.subs.length
    · have hlt' : k < b.subs.length := by have := HLE.out; omega
      have hk20 : k < 20 := by omega
      have HLN := Lib.hid hr.len
      have hT1 := (HU.out k hlt).under (hacc.mono hB)
      have hT2 := (HU'.out k hlt').under (hacc.mono hB)
      obtain ⟨b1, o1, na1, nc1, sa1, sc1, rfl, hbb1, hfk1, c0, c1, c2, c3, c4, c5, c6⟩ := TyC.elem (HS.out.keep fun p hp => hacc.cell (p := p) (by omega)) hlt hT1
      obtain ⟨b2, o2, na2, nc2, sa2, sc2, rfl, hbb2, hfk2, d0, d1, d2, d3, d4, d5, d6⟩ := TyC.elem (HS'.out.keep fun p hp => hacc.cell (p := p) (by omega)) hlt' hT2
      rw [hfk1] at hT1
      rw [hfk2] at hT2
      have HT1 := Lib.hid hT1
      have HT2 := Lib.hid hT2
      have HC := Lib.hid (And.intro c0 (And.intro c1 (And.intro c2 (And.intro c3 (And.intro c4 (And.intro c5 c6))))))
      have HD := Lib.hid (And.intro d0 (And.intro d1 (And.intro d2 (And.intro d3 (And.intro d4 (And.intro d5 d6))))))
      have HA6 := Lib.hid a6
      have HQ6 := Lib.hid q6
      have hltI : (k : Int) < (a.subs.length : Int) := by omega
      have hltI' : (k : Int) < (b.subs.length : Int) := by omega
      have hw2 : B ≤ wr.heap.size := by omega
      clear hr hT1 hT2 hfk1 hfk2 c0 c1 c2 c3 c4 c5 c6 d0 d1 d2 d3 d4 d5 d6
      go_upto_region 12 with fail
      go_cut [10] (fun s10 wx => s10 = .bool (decide (a.kind = 7 ∧ k < a.subs.length - 1)) ∧ wx = wr)
      case first =>
        go_wp2_with fail
        go_meet
        exact ⟨by simp [HK.out], rfl⟩
      case rest =>
        obtain ⟨rfl, rfl⟩ := hcut
        generalize hc7 : decide (a.kind = 7 ∧ k < a.subs.length - 1) = c7
        obtain ⟨v, hv⟩ : ∃ v, (!(up == c7)) = v := ⟨_, rfl⟩
        have HV := Lib.hid hv
        have hway : v = wayOf up a k := by
          subst hv hc7
          unfold wayOf
          by_cases h : a.kind = 7 ∧ k < a.subs.length - 1
          · rw [if_pos h, decide_eq_true h]; cases up <;> rfl
          · rw [if_neg h, decide_eq_false h]; cases up <;> rfl
        have HWY := Lib.hid hway
        clear hway hc7 hv
        go_upto_region 13 with fail
        clear a6 q6 a0
        go_cut [11, 12] (fun s11 s12 wx => ∃ (tb : Nat) (t : Ty) (na3 : Option Addr) (nc3 : Nat) (sa3 : Option Addr) (sc3 : Nat), s11 = .pointer (some ⟨tb, 0, none⟩) ∧ s12 = .bool (r v a.subs[k] b.subs[k]).isSome ∧ CutRel wc wx B t (tyCells t na3 nc3 sa3 sc3) tb ∧ (∀ x, r v a.subs[k] b.subs[k] = some x → t = x))
        case first =>
          refine wp_region_until [(13, fun w' => w'.cell? ⟨w.heap.size, 6, none⟩ = some (.slice (some ⟨b1, o1, none⟩) a.subs.length sc)), (13, fun w' => w'.cell? ⟨w.heap.size + 1, 6, none⟩ = some (.slice (some ⟨b2, o2, none⟩) b.subs.length sc')), (13, fun w' => w'.cell? ⟨b1, o1 + k * 7, none⟩ = some (.int .i64 a.subs[k].kind) ∧ w'.cell? ⟨b1, o1 + k * 7 + 1, none⟩ = some (.string a.subs[k].pkg) ∧ w'.cell? ⟨b1, o1 + k * 7 + 2, none⟩ = some (.int .i64 a.subs[k].major) ∧ w'.cell? ⟨b1, o1 + k * 7 + 3, none⟩ = some (.string a.subs[k].mod) ∧ w'.cell? ⟨b1, o1 + k * 7 + 4, none⟩ = some (.string a.subs[k].name) ∧ w'.cell? ⟨b1, o1 + k * 7 + 5, none⟩ = some (.slice na1 a.subs[k].names.length nc1) ∧ w'.cell? ⟨b1, o1 + k * 7 + 6, none⟩ = some (.slice sa1 a.subs[k].subs.length sc1)), (13, fun w' => w'.cell? ⟨b2, o2 + k * 7, none⟩ = some (.int .i64 b.subs[k].kind) ∧ w'.cell? ⟨b2, o2 + k * 7 + 1, none⟩ = some (.string b.subs[k].pkg) ∧ w'.cell? ⟨b2, o2 + k * 7 + 2, none⟩ = some (.int .i64 b.subs[k].major) ∧ w'.cell? ⟨b2, o2 + k * 7 + 3, none⟩ = some (.string b.subs[k].mod) ∧ w'.cell? ⟨b2, o2 + k * 7 + 4, none⟩ = some (.string b.subs[k].name) ∧ w'.cell? ⟨b2, o2 + k * 7 + 5, none⟩ = some (.slice na2 b.subs[k].names.length nc2) ∧ w'.cell? ⟨b2, o2 + k * 7 + 6, none⟩ = some (.slice sa2 b.subs[k].subs.length sc2))] (by kernel_rfl) (Until.cons (fun _ => HA6.out) (Until.cons (fun _ => HQ6.out) (Until.cons (fun _ => HC.out) (Until.cons (fun _ => HD.out) Until.nil)))) (fun hU => ?_)
          refine AnyU.take (i := 0) (v := ?_) rfl (by kernel_rfl) (by kernel_rfl) (by kernel_rfl) (fun _ _ _ h => h) (by kernel_rfl) (by assumption) (by rfl) ?_ (fun hU => ?_)
          rotate_left 1
          · (intro wq; go_simp; try with_reducible rfl)
          simp only [Act.put, List.getElem_toArray, List.getElem_cons_zero, List.getElem_cons_succ, List.setIfInBounds_toArray, List.set_cons_zero, List.set_cons_succ]
          refine AnyU.loadc (i := 1) (d := 13) [3, 4, 13] (Si := fun w' => w'.cell? ⟨w.heap.size, 6, none⟩ = some (.slice (some ⟨b1, o1, none⟩) a.subs.length sc)) (v := ?_) rfl (by kernel_rfl) (by kernel_rfl) (by kernel_rfl) (fun _ _ _ h => h) (by kernel_rfl) (by assumption) (by kernel_rfl) rfl (by simp) (by rfl) ?_ (fun hU => ?_)
          rotate_left 1
          · (intro wq hq; go_simp; try with_reducible rfl)
          simp only [Act.put, List.getElem_toArray, List.getElem_cons_zero, List.getElem_cons_succ, List.setIfInBounds_toArray, List.set_cons_zero, List.set_cons_succ]
          refine AnyU.take (i := 2) (v := ?_) rfl (by kernel_rfl) (by kernel_rfl) (by kernel_rfl) (fun _ _ _ h => h) (by kernel_rfl) (by assumption) (by rfl) ?_ (fun hU => ?_)
          rotate_left 1
          · (intro wq; go_simp; try with_reducible rfl)
          simp only [Act.put, List.getElem_toArray, List.getElem_cons_zero, List.getElem_cons_succ, List.setIfInBounds_toArray, List.set_cons_zero, List.set_cons_succ]
          refine AnyU.take (i := 3) (v := ?_) rfl (by kernel_rfl) (by kernel_rfl) (by kernel_rfl) (fun _ _ _ h => h) (by kernel_rfl) (by assumption) (by rfl) ?_ (fun hU => ?_)
          rotate_left 1
          · (intro wq; go_simp; try with_reducible rfl)
          simp only [Act.put, List.getElem_toArray, List.getElem_cons_zero, List.getElem_cons_succ, List.setIfInBounds_toArray, List.set_cons_zero, List.set_cons_succ]
          refine AnyU.loadc (i := 4) (d := 13) [13] (Si := fun w' => w'.cell? ⟨b1, o1 + k * 7, none⟩ = some (.int .i64 a.subs[k].kind) ∧ w'.cell? ⟨b1, o1 + k * 7 + 1, none⟩ = some (.string a.subs[k].pkg) ∧ w'.cell? ⟨b1, o1 + k * 7 + 2, none⟩ = some (.int .i64 a.subs[k].major) ∧ w'.cell? ⟨b1, o1 + k * 7 + 3, none⟩ = some (.string a.subs[k].mod) ∧ w'.cell? ⟨b1, o1 + k * 7 + 4, none⟩ = some (.string a.subs[k].name) ∧ w'.cell? ⟨b1, o1 + k * 7 + 5, none⟩ = some (.slice na1 a.subs[k].names.length nc1) ∧ w'.cell? ⟨b1, o1 + k * 7 + 6, none⟩ = some (.slice sa1 a.subs[k].subs.length sc1)) (v := ?_) rfl (by kernel_rfl) (by kernel_rfl) (by kernel_rfl) (fun _ _ _ h => h) (by kernel_rfl) (by assumption) (by kernel_rfl) rfl (by simp) (by rfl) ?_ (fun hU => ?_)
          rotate_left 1
          · (intro wq hq; obtain ⟨u0, u1, u2, u3, u4, u5, u6⟩ := hq; go_simp; try with_reducible rfl)
          simp only [Act.put, List.getElem_toArray, List.getElem_cons_zero, List.getElem_cons_succ, List.setIfInBounds_toArray, List.set_cons_zero, List.set_cons_succ]
          refine AnyU.take (i := 5) (v := ?_) rfl (by kernel_rfl) (by kernel_rfl) (by kernel_rfl) (fun _ _ _ h => h) (by kernel_rfl) (by assumption) (by rfl) ?_ (fun hU => ?_)
          rotate_left 1
          · (intro wq; go_simp; try with_reducible rfl)
          simp only [Act.put, List.getElem_toArray, List.getElem_cons_zero, List.getElem_cons_succ, List.setIfInBounds_toArray, List.set_cons_zero, List.set_cons_succ]
          refine AnyU.loadc (i := 6) (d := 13) [8, 9, 13] (Si := fun w' => w'.cell? ⟨w.heap.size + 1, 6, none⟩ = some (.slice (some ⟨b2, o2, none⟩) b.subs.length sc')) (v := ?_) rfl (by kernel_rfl) (by kernel_rfl) (by kernel_rfl) (fun _ _ _ h => h) (by kernel_rfl) (by assumption) (by kernel_rfl) rfl (by simp) (by rfl) ?_ (fun hU => ?_)
          rotate_left 1
          · (intro wq hq; go_simp; try with_reducible rfl)
          simp only [Act.put, List.getElem_toArray, List.getElem_cons_zero, List.getElem_cons_succ, List.setIfInBounds_toArray, List.set_cons_zero, List.set_cons_succ]
          refine AnyU.take (i := 7) (v := ?_) rfl (by kernel_rfl) (by kernel_rfl) (by kernel_rfl) (fun _ _ _ h => h) (by kernel_rfl) (by assumption) (by rfl) ?_ (fun hU => ?_)
          rotate_left 1
          · (intro wq; go_simp; try with_reducible rfl)
          simp only [Act.put, List.getElem_toArray, List.getElem_cons_zero, List.getElem_cons_succ, List.setIfInBounds_toArray, List.set_cons_zero, List.set_cons_succ]
          refine AnyU.take (i := 8) (v := ?_) rfl (by kernel_rfl) (by kernel_rfl) (by kernel_rfl) (fun _ _ _ h => h) (by kernel_rfl) (by assumption) (by rfl) ?_ (fun hU => ?_)
          rotate_left 1
          · (intro wq; go_simp; try with_reducible rfl)
          simp only [Act.put, List.getElem_toArray, List.getElem_cons_zero, List.getElem_cons_succ, List.setIfInBounds_toArray, List.set_cons_zero, List.set_cons_succ]
          refine AnyU.loadc (i := 9) (d := 13) [13] (Si := fun w' => w'.cell? ⟨b2, o2 + k * 7, none⟩ = some (.int .i64 b.subs[k].kind) ∧ w'.cell? ⟨b2, o2 + k * 7 + 1, none⟩ = some (.string b.subs[k].pkg) ∧ w'.cell? ⟨b2, o2 + k * 7 + 2, none⟩ = some (.int .i64 b.subs[k].major) ∧ w'.cell? ⟨b2, o2 + k * 7 + 3, none⟩ = some (.string b.subs[k].mod) ∧ w'.cell? ⟨b2, o2 + k * 7 + 4, none⟩ = some (.string b.subs[k].name) ∧ w'.cell? ⟨b2, o2 + k * 7 + 5, none⟩ = some (.slice na2 b.subs[k].names.length nc2) ∧ w'.cell? ⟨b2, o2 + k * 7 + 6, none⟩ = some (.slice sa2 b.subs[k].subs.length sc2)) (v := ?_) rfl (by kernel_rfl) (by kernel_rfl) (by kernel_rfl) (fun _ _ _ h => h) (by kernel_rfl) (by assumption) (by kernel_rfl) rfl (by simp) (by rfl) ?_ (fun hU => ?_)
          rotate_left 1
          · (intro wq hq; obtain ⟨u0, u1, u2, u3, u4, u5, u6⟩ := hq; go_simp; try with_reducible rfl)
          simp only [Act.put, List.getElem_toArray, List.getElem_cons_zero, List.getElem_cons_succ, List.setIfInBounds_toArray, List.set_cons_zero, List.set_cons_succ]
          refine AnyU.take (i := 10) (v := ?_) rfl (by kernel_rfl) (by kernel_rfl) (by kernel_rfl) (fun _ _ _ h => h) (by kernel_rfl) (by assumption) (by rfl) ?_ (fun hU => ?_)
          rotate_left 1
          · (intro wq; go_simp; try with_reducible rfl)
          simp only [Act.put, List.getElem_toArray, List.getElem_cons_zero, List.getElem_cons_succ, List.setIfInBounds_toArray, List.set_cons_zero, List.set_cons_succ]
          refine AnyU.take (i := 11) (v := ?_) rfl (by kernel_rfl) (by kernel_rfl) (by kernel_rfl) (fun _ _ _ h => h) (by kernel_rfl) (by assumption) (by rfl) ?_ (fun hU => ?_)
          rotate_left 1
          · (intro wq; go_simp; try with_reducible rfl)
          simp only [Act.put, List.getElem_toArray, List.getElem_cons_zero, List.getElem_cons_succ, List.setIfInBounds_toArray, List.set_cons_zero, List.set_cons_succ]
          refine AnyU.take (i := 12) (v := ?_) rfl (by kernel_rfl) (by kernel_rfl) (by kernel_rfl) (fun _ _ _ h => h) (by kernel_rfl) (by assumption) (by rfl) ?_ (fun hU => ?_)
          rotate_left 1
          · (intro wq; go_simp; try with_reducible rfl)
          simp only [Act.put, List.getElem_toArray, List.getElem_cons_zero, List.getElem_cons_succ, List.setIfInBounds_toArray, List.set_cons_zero, List.set_cons_succ]
          refine AnyU.ready2 (i := 13) (j := 17) (by kernel_rfl) (AnyU.one rfl fun K hK => ?_) (AnyU.one rfl fun K hK => ?_)
          · go_simp
            go_at_call 21
            rw [HV.out]
            refine (HI.out a.subs[k] b.subs[k] v (List.getElem_mem hlt) (List.getElem_mem hlt') _ _ B wc.drew (HT1.out.keep fun _ _ => rfl) (HT2.out.keep fun _ _ => rfl) hw2).mono ?_
            rintro e w3 ⟨⟨t, cr, rfl, hrt, htm⟩, hb3⟩
            obtain ⟨na3, nc3, sa3, sc3, f3, rfl, -⟩ := htm.inv
            simp only [tyCells]
            have HAL := Lib.hid (show Below wc.heap.size wc w3 from (Below.refl _ _).drew.trans hb3)
            have HTM := Lib.hid htm
            have HRT := Lib.hid hrt
            clear htm hb3 hrt
            refine hK.out _ _ (Until.off (by kernel_rfl)) (fun hU => ?_)
            clear hK K
            try simp only [Act.put, List.getElem_toArray, List.getElem_cons_zero, List.getElem_cons_succ, List.setIfInBounds_toArray, List.set_cons_zero, List.set_cons_succ]
            refine AnyU.take (i := 14) (v := ?_) rfl (by kernel_rfl) (by kernel_rfl) (by kernel_rfl) (fun _ _ _ h => h) (by kernel_rfl) (by assumption) (by rfl) ?_ (fun hU => ?_)
            rotate_left 1
            · (intro wq; go_simp; try with_reducible rfl)
            simp only [Act.put, List.getElem_toArray, List.getElem_cons_zero, List.getElem_cons_succ, List.setIfInBounds_toArray, List.set_cons_zero, List.set_cons_succ]
            refine AnyU.take (i := 15) (v := ?_) rfl (by kernel_rfl) (by kernel_rfl) (by kernel_rfl) (fun _ _ _ h => h) (by kernel_rfl) (by assumption) (by rfl) ?_ (fun hU => ?_)
            rotate_left 1
            · (intro wq; go_simp; try with_reducible rfl)
            simp only [Act.put, List.getElem_toArray, List.getElem_cons_zero, List.getElem_cons_succ, List.setIfInBounds_toArray, List.set_cons_zero, List.set_cons_succ]
            refine AnyU.take (i := 16) (v := ?_) rfl (by kernel_rfl) (by kernel_rfl) (by kernel_rfl) (fun _ _ _ h => h) (by kernel_rfl) (by assumption) (by rfl) ?_ (fun hU => ?_)
            rotate_left 1
            · (intro wq; go_simp; try with_reducible rfl)
            simp only [Act.put, List.getElem_toArray, List.getElem_cons_zero, List.getElem_cons_succ, List.setIfInBounds_toArray, List.set_cons_zero, List.set_cons_succ]
            refine AnyU.ready1 (i := 17) (by kernel_rfl) (AnyU.one rfl fun K hK => ?_)
            go_simp
            refine hK.out _ _ (Until.off (by kernel_rfl)) (fun hU => ?_)
            clear hK K
            try simp only [Act.put, List.getElem_toArray, List.getElem_cons_zero, List.getElem_cons_succ, List.setIfInBounds_toArray, List.set_cons_zero, List.set_cons_succ]
            refine AnyU.ready1 (i := 18) (by kernel_rfl) (AnyU.one rfl fun K hK => ?_)
            go_simp
            refine hK.out _ _ (Until.off (by kernel_rfl)) (fun hU => ?_)
            clear hK K
            try simp only [Act.put, List.getElem_toArray, List.getElem_cons_zero, List.getElem_cons_succ, List.setIfInBounds_toArray, List.set_cons_zero, List.set_cons_succ]
            refine AnyU.take (i := 19) (v := ?_) rfl (by kernel_rfl) (by kernel_rfl) (by kernel_rfl) (fun _ _ _ h => h) (by kernel_rfl) (by assumption) (by rfl) ?_ (fun hU => ?_)
            rotate_left 1
            · (intro wq; go_simp; try with_reducible rfl)
            simp only [Act.put, List.getElem_toArray, List.getElem_cons_zero, List.getElem_cons_succ, List.setIfInBounds_toArray, List.set_cons_zero, List.set_cons_succ]
            refine AnyU.done (by kernel_rfl) ?_
            have hq := CutRel.one (W2 := wc) (X := wc.drew) hw2 (Below.refl _ _) HAL.out (Nat.le_refl _) HTM.out
            simp only [tyCells] at hq
            generalize (w3.alloc (.cells #[.int .i64 t.kind, .string t.pkg, .int .i64 t.major, .string t.mod, .string t.name, .slice na3 t.names.length nc3, .slice sa3 t.subs.length sc3] 25)) = Wz at hq ⊢
            have HQ := Lib.hid hq
            clear hq hU
            go_wp2_with fail
            go_meet
            exact ⟨_, _, _, _, _, _, rfl, rfl, HQ.out, HRT.out⟩
          · go_simp
            have hX2 : wc.heap.size + 1 ≤ (wc.alloc (.cells #[.int .i64 0, .string { data := #[] }, .int .i64 0, .string { data := #[] }, .string { data := #[] }, .slice none 0 0, .slice none 0 0] 25)).drew.heap.size := by
              show wc.heap.size + 1 ≤ (wc.alloc _).heap.size
              simp
            have hbA := ((Below.refl wc.heap.size wc).alloc (Nat.le_refl _) (.cells #[.int .i64 0, .string { data := #[] }, .int .i64 0, .string { data := #[] }, .string { data := #[] }, .slice none 0 0, .slice none 0 0] 25)).drew
            refine hK.out _ _ (Until.cons (fun _ => (hbA.cell (by simp; omega)).trans HA6.out) (Until.cons (fun _ => (hbA.cell (by simp; omega)).trans HQ6.out) (Until.cons (fun _ => keep7 hbA (by omega) HC.out) (Until.cons (fun _ => keep7 hbA (by omega) HD.out) Until.nil)))) (fun hU => ?_)
            clear hK K
            try simp only [Act.put, List.getElem_toArray, List.getElem_cons_zero, List.getElem_cons_succ, List.setIfInBounds_toArray, List.set_cons_zero, List.set_cons_succ]
            refine AnyU.ready1 (i := 13) (by kernel_rfl) (AnyU.one rfl fun K hK => ?_)
            go_simp
            go_at_call 21
            rw [HV.out]
            refine (HI.out a.subs[k] b.subs[k] v (List.getElem_mem hlt) (List.getElem_mem hlt') _ _ B (wc.alloc (.cells #[.int .i64 0, .string { data := #[] }, .int .i64 0, .string { data := #[] }, .string { data := #[] }, .slice none 0 0, .slice none 0 0] 25)).drew ((HT1.out.alloc hw2 _).keep fun _ _ => rfl) ((HT2.out.alloc hw2 _).keep fun _ _ => rfl) (by show B ≤ (wc.alloc _).heap.size; simp; omega)).mono ?_
            rintro e w3 ⟨⟨t, cr, rfl, hrt, htm⟩, hb3⟩
            obtain ⟨na3, nc3, sa3, sc3, f3, rfl, -⟩ := htm.inv
            simp only [tyCells]
            have zb : Blk w3 wc.heap.size #[.int .i64 0, .string { data := #[] }, .int .i64 0, .string { data := #[] }, .string { data := #[] }, .slice none 0 0, .slice none 0 0] 25 := (Blk.new wc #[.int .i64 0, .string { data := #[] }, .int .i64 0, .string { data := #[] }, .string { data := #[] }, .slice none 0 0, .slice none 0 0] 25).drew.under hb3 (by show wc.heap.size < (wc.alloc _).heap.size; simp)
            have HAL := Lib.hid (show Below wc.heap.size wc w3 from ((Below.refl wc.heap.size wc).alloc (Nat.le_refl _) _).drew.trans (hb3.mono (by show wc.heap.size ≤ (wc.alloc _).heap.size; simp)))
            have z0 := zb.cell 0
            have zf0 := zb.free 0
            have z1 := zb.cell 1
            have zf1 := zb.free 1
            have z2 := zb.cell 2
            have zf2 := zb.free 2
            have z3 := zb.cell 3
            have zf3 := zb.free 3
            have z4 := zb.cell 4
            have zf4 := zb.free 4
            have z5 := zb.cell 5
            have zf5 := zb.free 5
            have z6 := zb.cell 6
            have zf6 := zb.free 6
            simp at z0 z1 z2 z3 z4 z5 z6
            have HZB := Lib.hid zb
            have HTM := Lib.hid htm
            have HRT := Lib.hid hrt
            clear htm hb3 hrt zb
            refine hK.out _ _ (Until.off (by kernel_rfl)) (fun hU => ?_)
            clear hK K
            try simp only [Act.put, List.getElem_toArray, List.getElem_cons_zero, List.getElem_cons_succ, List.setIfInBounds_toArray, List.set_cons_zero, List.set_cons_succ]
            refine AnyU.take (i := 14) (v := ?_) rfl (by kernel_rfl) (by kernel_rfl) (by kernel_rfl) (fun _ _ _ h => h) (by kernel_rfl) (by assumption) (by rfl) ?_ (fun hU => ?_)
            rotate_left 1
            · (intro wq; go_simp; try with_reducible rfl)
            simp only [Act.put, List.getElem_toArray, List.getElem_cons_zero, List.getElem_cons_succ, List.setIfInBounds_toArray, List.set_cons_zero, List.set_cons_succ]
            refine AnyU.take (i := 15) (v := ?_) rfl (by kernel_rfl) (by kernel_rfl) (by kernel_rfl) (fun _ _ _ h => h) (by kernel_rfl) (by assumption) (by rfl) ?_ (fun hU => ?_)
            rotate_left 1
            · (intro wq; go_simp; try with_reducible rfl)
            simp only [Act.put, List.getElem_toArray, List.getElem_cons_zero, List.getElem_cons_succ, List.setIfInBounds_toArray, List.set_cons_zero, List.set_cons_succ]
            refine AnyU.take (i := 16) (v := ?_) rfl (by kernel_rfl) (by kernel_rfl) (by kernel_rfl) (fun _ _ _ h => h) (by kernel_rfl) (by assumption) (by rfl) ?_ (fun hU => ?_)
            rotate_left 1
            · (intro wq; go_simp; try with_reducible rfl)
            simp only [Act.put, List.getElem_toArray, List.getElem_cons_zero, List.getElem_cons_succ, List.setIfInBounds_toArray, List.set_cons_zero, List.set_cons_succ]
            refine AnyU.ready1 (i := 18) (by kernel_rfl) (AnyU.one rfl fun K hK => ?_)
            go_simp
            refine hK.out _ _ (Until.off (by kernel_rfl)) (fun hU => ?_)
            clear hK K
            try simp only [Act.put, List.getElem_toArray, List.getElem_cons_zero, List.getElem_cons_succ, List.setIfInBounds_toArray, List.set_cons_zero, List.set_cons_succ]
            refine AnyU.take (i := 19) (v := ?_) rfl (by kernel_rfl) (by kernel_rfl) (by kernel_rfl) (fun _ _ _ h => h) (by kernel_rfl) (by assumption) (by rfl) ?_ (fun hU => ?_)
            rotate_left 1
            · (intro wq; go_simp; try with_reducible rfl)
            simp only [Act.put, List.getElem_toArray, List.getElem_cons_zero, List.getElem_cons_succ, List.setIfInBounds_toArray, List.set_cons_zero, List.set_cons_succ]
            refine AnyU.done (by kernel_rfl) ?_
            have hq := CutRel.two (W2 := wc) (X := (wc.alloc (.cells #[.int .i64 0, .string { data := #[] }, .int .i64 0, .string { data := #[] }, .string { data := #[] }, .slice none 0 0, .slice none 0 0] 25)).drew) hw2 (Below.refl _ _) HAL.out hX2 HZB.out HTM.out
            generalize (((((((((((((w3.setCell ⟨wc.heap.size, 0, none⟩ (.int .i64 t.kind))).setCell ⟨wc.heap.size, 1, none⟩ (.string t.pkg))).setCell ⟨wc.heap.size, 2, none⟩ (.int .i64 t.major))).setCell ⟨wc.heap.size, 3, none⟩ (.string t.mod))).setCell ⟨wc.heap.size, 4, none⟩ (.string t.name))).setCell ⟨wc.heap.size, 5, none⟩ (.slice na3 t.names.length nc3))).setCell ⟨wc.heap.size, 6, none⟩ (.slice sa3 t.subs.length sc3)) = Wz at hq ⊢
            have HQ := Lib.hid hq
            clear hq hU z0 z1 z2 z3 z4 z5 z6 zf0 zf1 zf2 zf3 zf4 zf5 zf6
            go_wp2_with fail
            go_meet
            exact ⟨_, _, _, _, _, _, rfl, rfl, HQ.out, HRT.out⟩
        case rest =>
          obtain ⟨tb, t, na3, nc3, sa3, sc3, rfl, rfl, hc, hrt⟩ := hcut
          have HC := Lib.hid hc
          have hG : partG r up a b k = r v a.subs[k] b.subs[k] := by rw [HWY.out]; exact partG_at r up a b k hlt hlt'
          have HG := Lib.hid hG
          clear hG
          have hrs := HR.out.res.under HC.out.below HR.out.res.lt
          have z0 := hrs.cell 0
          have f0 := hrs.free 0
          have z1 := hrs.cell 1
          have f1 := hrs.free 1
          have z2 := hrs.cell 2
          have f2 := hrs.free 2
          have z3 := hrs.cell 3
          have f3 := hrs.free 3
          have z4 := hrs.cell 4
          have f4 := hrs.free 4
          have z5 := hrs.cell 5
          have f5 := hrs.free 5
          have z6 := hrs.cell 6
          have f6 := hrs.free 6
          simp at z0 z1 z2 z3 z4 z5 z6
          have HRS := Lib.hid hrs
          clear hrs
          cases hr : r v a.subs[k] b.subs[k]
          · clear hc hrt
            have hp : partsR r up a b = none := partsR_none r up a b k hlt (HG.out.trans hr)
            have HP := Lib.hid hp
            clear hr hp
            simp only [Option.isSome_none]
            go_wp2_with fail
            have hblk := put7_full (.int .i64 0) (.string { data := #[] }) (.int .i64 0) (.string { data := #[] }) (.string { data := #[] }) (.slice none 0 0) (.slice none 0 0) HRS.out
            have hbl := put7_bel (.int .i64 0) (.string { data := #[] }) (.int .i64 0) (.string { data := #[] }) (.string { data := #[] }) (.slice none 0 0) (.slice none 0 0) (acc0 hacc (by omega) HC.out.below) (show w.heap.size ≤ w.heap.size + 1 + 1 by omega)
            generalize (((((((wc.setCell ⟨w.heap.size + 1 + 1, 0, none⟩ (.int .i64 0)).setCell ⟨w.heap.size + 1 + 1, 1, none⟩ (.string { data := #[] })).setCell ⟨w.heap.size + 1 + 1, 2, none⟩ (.int .i64 0)).setCell ⟨w.heap.size + 1 + 1, 3, none⟩ (.string { data := #[] })).setCell ⟨w.heap.size + 1 + 1, 4, none⟩ (.string { data := #[] })).setCell ⟨w.heap.size + 1 + 1, 5, none⟩ (.slice none 0 0)).setCell ⟨w.heap.size + 1 + 1, 6, none⟩ (.slice none 0 0)) = Wz at hblk hbl ⊢
            have p0 := hblk.cell 0
            have p1 := hblk.cell 1
            have p2 := hblk.cell 2
            have p3 := hblk.cell 3
            have p4 := hblk.cell 4
            have p5 := hblk.cell 5
            have p6 := hblk.cell 6
            simp at p0 p1 p2 p3 p4 p5 p6
            refine bodyPost_ret (by simp [results, Try.results21, go_sem, p0, p1, p2, p3, p4, p5, p6]; try rfl) rfl ?_
            exact ⟨⟨zeroTy, _, (by rw [HP.out]; rfl), fun x h => (by rw [HP.out] at h; cases h), (zero_tyc _ B).toM.mono fun b hb => Or.inl hb⟩, hbl⟩
          · obtain rfl := hrt _ hr
            have hG2 : partG r up a b k = some t := HG.out.trans hr
            have HG2 := Lib.hid hG2
            have hbx := HR.out.out.under hc.below HR.out.out.lt
            have htb := hc.blk
            have e6 := hbx.cell 6
            have g6 := hbx.free 6
            have hlb := hbx.lt
            have hlt3 := htb.lt
            have t0 := htb.cell 0
            have t1 := htb.cell 1
            have t2 := htb.cell 2
            have t3 := htb.cell 3
            have t4 := htb.cell 4
            have t5 := htb.cell 5
            have t6 := htb.cell 6
            simp [tyCells] at e6 t0 t1 t2 t3 t4 t5 t6
            have hrw := HR.out.rows.under hc.below (by omega)
            have HBX := Lib.hid hbx
            have HTB := Lib.hid htb
            have hown2 := fun g hg => owns_lt HR.out.rows.row (g := g) hg
            have hlo := hc.lo
            have hbw := hc.below.size
            have hsb : sv.ownBlock ≠ some (w.heap.size + 1 + 1 + 1) := fun e => by have := hown2 _ e; omega
            have HRW := Lib.hid hrw
            clear hc hrt hr hbx htb hrw hown2 hG2
            simp only [Option.isSome_some]
            have hone7 : ∀ u ∈ (#[.int .i64 t.kind, .string t.pkg, .int .i64 t.major, .string t.mod, .string t.name, .slice na3 t.names.length nc3, .slice sa3 t.subs.length sc3] : Array Value).toList, u.oneCell' = true := by simp [Value.oneCell']
            have hml : L.length + 1 ≤ maxLen := by have := HLN.out; unfold maxLen; omega
            have hb112 : (L.length + 1) * 112 ≤ 140737488355328 := by have := HLN.out; omega
            have hX3 : Below wc.heap.size wc (wc.alloc (.cells #[.int .i64 t.kind, .string t.pkg, .int .i64 t.major, .string t.mod, .string t.name, .slice na3 t.names.length nc3, .slice sa3 t.subs.length sc3] 25)) := (Below.refl _ _).alloc (Nat.le_refl _) _
            have hX3s : w.heap.size + 4 ≤ (wc.alloc (.cells #[.int .i64 t.kind, .string t.pkg, .int .i64 t.major, .string t.mod, .string t.name, .slice na3 t.names.length nc3, .slice sa3 t.subs.length sc3] 25)).heap.size := by simp; omega
            have HX3 := Lib.hid hX3
            clear hX3
            go_wp2_with (at_builtin; refine wpList_append_lies (wc.alloc (.cells #[.int .i64 t.kind, .string t.pkg, .int .i64 t.major, .string t.mod, .string t.name, .slice na3 t.names.length nc3, .slice sa3 t.subs.length sc3] 25)) rfl _ _ 23 rfl (w.heap.size + 4) 25 iS (.agg zeroCells) 7 112 Try.underlying23 hiS hzS0 hzS1 hzS2 rfl (by decide) sv L.length (F.flatMap (·.toList)) rfl (owns_under HRW.out.row HX3.out) ⟨wc.heap.size, 0, none⟩ 1 1 (#[.int .i64 t.kind, .string t.pkg, .int .i64 t.major, .string t.mod, .string t.name, .slice na3 t.names.length nc3, .slice sa3 t.subs.length sc3] : Array Value).toList rfl (by rfl) (World.news_of_block (cs := #[.int .i64 t.kind, .string t.pkg, .int .i64 t.major, .string t.mod, .string t.name, .slice na3 t.names.length nc3, .slice sa3 t.subs.length sc3]) (t := 25) (fr := (0, 0)) (heap_alloc_new wc _)) hone7 (by decide) hml hb112 hX3s _ rfl ?_; intro gS cS x4 hownS hgS hatS hltS; obtain ⟨e5', e6', f5', f6'⟩ := grown_box2 hgS (HBX.out.under HX3.out HBX.out.lt) hsb; have HOS := Lib.hid hownS; have HGS := Lib.hid hgS; have HAS := Lib.hid hatS; clear hownS hgS hatS)
            have hnx := HR.out.next hB HC.out HG2.out HX3.out HGS.out HOS.out (HAS.out.imp id fun e => by rw [e]; exact HX3.out.size)
            first
              | exact ⟨⟨k + 1, _, _, _, by omega, by go_num, hnx⟩, by simp [intOf]; omega⟩
              | (go_roundw
                 case rel => exact ⟨k + 1, _, _, _, by omega, by go_num, hnx⟩
                 case measure => simp [intOf]; omega)
    · have hke : k = a.subs.length := by omega
      obtain ⟨A2, m2, c2, rfl⟩ := own_form hr.rows.row
      have o0 := hr.out.cell 0
      have z0 := hr.res.cell 0
      have f0 := hr.res.free 0
      have o1 := hr.out.cell 1
      have z1 := hr.res.cell 1
      have f1 := hr.res.free 1
      have o2 := hr.out.cell 2
      have z2 := hr.res.cell 2
      have f2 := hr.res.free 2
      have o3 := hr.out.cell 3
      have z3 := hr.res.cell 3
      have f3 := hr.res.free 3
      have o4 := hr.out.cell 4
      have z4 := hr.res.cell 4
      have f4 := hr.res.free 4
      have o5 := hr.out.cell 5
      have z5 := hr.res.cell 5
      have f5 := hr.res.free 5
      have o6 := hr.out.cell 6
      have z6 := hr.res.cell 6
      have f6 := hr.res.free 6
      simp at o0 z0 o1 z1 o2 z2 o3 z3 o4 z4 o5 z5 o6 z6
      have hkx : ¬ (k : Int) < (a.subs.length : Int) := by omega
      have hp : partsR r up a b = some (.mk a.kind { data := #[] } 0 { data := #[] } { data := #[] } [] L) := partsR_some r up a b L HLE.out (by rw [← hke]; exact hr.got)
      have HP := Lib.hid hp
      have hL20 : L.length ≤ 20 := by have := hr.len; omega
      have HL20 := Lib.hid hL20
      clear hr hp hke hL20
      go_wp2_with fail
      have hlast := HR.out.last hB HF.out HL20.out (.int .i64 a.kind) (.string { data := #[] }) (.int .i64 0) (.string { data := #[] }) (.string { data := #[] }) (.slice none 0 0) (.slice A2 m2 c2)
      have hblk := put7_full (.int .i64 a.kind) (.string { data := #[] }) (.int .i64 0) (.string { data := #[] }) (.string { data := #[] }) (.slice none 0 0) (.slice A2 m2 c2) HR.out.res
      simp only [put7_zero] at hlast
      generalize (((((((wr.setCell ⟨w.heap.size + 1 + 1, 0, none⟩ (.int .i64 a.kind)).setCell ⟨w.heap.size + 1 + 1, 1, none⟩ (.string { data := #[] })).setCell ⟨w.heap.size + 1 + 1, 2, none⟩ (.int .i64 0)).setCell ⟨w.heap.size + 1 + 1, 3, none⟩ (.string { data := #[] })).setCell ⟨w.heap.size + 1 + 1, 4, none⟩ (.string { data := #[] })).setCell ⟨w.heap.size + 1 + 1, 5, none⟩ (.slice none 0 0)).setCell ⟨w.heap.size + 1 + 1, 6, none⟩ (.slice A2 m2 c2)) = Wz at hlast hblk ⊢
      have q0 := hblk.cell 0
      have q1 := hblk.cell 1
      have q2 := hblk.cell 2
      have q3 := hblk.cell 3
      have q4 := hblk.cell 4
      have q5 := hblk.cell 5
      have q6 := hblk.cell 6
      simp at q0 q1 q2 q3 q4 q5 q6
      refine bodyPost_ret (by simp [results, Try.results21, go_sem, q0, q1, q2, q3, q4, q5, q6]; try rfl) rfl ?_
      exact ⟨⟨_, _, (by rw [HP.out]; rfl), fun x hx => (by rw [HP.out] at hx; exact Option.some.inj hx), hlast.1⟩, hlast.2⟩
set_option maxRecDepth 100000 in
set_option maxHeartbeats 40000000 in
theorem rbound_parts7 (r : Bool → Ty → Ty → Option Ty) (a b : Ty) (up : Bool) (hk : a.kind = 7) (hk' : b.kind = 7) (hla : a.subs.length ≤ 20) (hbd : ∀ x y v, x ∈ a.subs → y ∈ b.subs → RBoundAt x y v (r v x y)) : RBoundAt a b up (partsR r up a b) := by
  intro cs cs' B w ha hb hB
  have HI := Lib.hid hbd
  obtain ⟨na, nc, sa, sc, f, rfl, hfa, hn, hs, -, -, hsub⟩ := ha.inv
  obtain ⟨na', nc', sa', sc', f', rfl, -, hn', hs', -, -, hsub'⟩ := hb.inv
  have HF := Lib.hid hfa
  have HS := Lib.hid hs
  have HU := Lib.hid hsub
  have HS' := Lib.hid hs'
  have HU' := Lib.hid hsub'
  have HK := Lib.hid hk
  have HK' := Lib.hid hk'
  clear ha hb hn hs hsub hn' hs' hsub' hbd hfa
  obtain ⟨iS, hiS, hzS0, hzS1, hzS2⟩ := info_parts info_type
  go_enter Try.func21, Try.ntmps21
  simp only [tyCells]
  rw [hk, hk']
  clear hk hk'
  by_cases hlen : a.subs.length = b.subs.length
  case neg =>
    have hne : ((a.subs.length : Int) != (b.subs.length : Int)) = true := by simp; omega
    go_wp2_with fail
    refine bodyPost_ret (by simp [results, Try.results21, go_sem]; try rfl) rfl ?_
    have hp : partsR r up a b = none := by unfold partsR; rw [if_neg hlen]
    exact ⟨⟨zeroTy, _, (by rw [hp]; rfl), fun x h => (by rw [hp] at h; cases h), (zero_tyc _ B).toM.mono fun b hb => Or.inl hb⟩, ((((Below.refl _ _).alloc (Nat.le_refl _) _).alloc (by simp) _).alloc (by simp; omega) _).alloc (by simp; omega) _⟩
  have hne : ((a.subs.length : Int) != (b.subs.length : Int)) = false := by simp; omega
  have HLE := Lib.hid hlen
  clear hlen
  go_wp2_with fail
  have h4 := boxes4 w #[.int .i64 7, .string a.pkg, .int .i64 a.major, .string a.mod, .string a.name, .slice na a.names.length nc, .slice sa a.subs.length sc] #[.int .i64 7, .string b.pkg, .int .i64 b.major, .string b.mod, .string b.name, .slice na' b.names.length nc', .slice sa' b.subs.length sc'] #[.int .i64 0, .string { data := #[] }, .int .i64 0, .string { data := #[] }, .string { data := #[] }, .slice none 0 0, .slice none 0 0] #[.int .i64 7, .string { data := #[] }, .int .i64 0, .string { data := #[] }, .string { data := #[] }, .slice none 0 0, .slice none 0 0] 25
  generalize ((((w.alloc (.cells #[.int .i64 7, .string a.pkg, .int .i64 a.major, .string a.mod, .string a.name, .slice na a.names.length nc, .slice sa a.subs.length sc] 25)).alloc (.cells #[.int .i64 7, .string b.pkg, .int .i64 b.major, .string b.mod, .string b.name, .slice na' b.names.length nc', .slice sa' b.subs.length sc'] 25)).alloc (.cells #[.int .i64 0, .string { data := #[] }, .int .i64 0, .string { data := #[] }, .string { data := #[] }, .slice none 0 0, .slice none 0 0] 25)).alloc (.cells #[.int .i64 7, .string { data := #[] }, .int .i64 0, .string { data := #[] }, .string { data := #[] }, .slice none 0 0, .slice none 0 0] 25)) = W at h4 ⊢
  obtain ⟨x0, x1, x2, x3, xs, xb⟩ := h4
  rw [← HK.out] at x0 x3
  rw [← HK'.out] at x1
  have hst : PartRel w W a b na nc sa sc na' nc' sa' sc' B r up (.slice none 0 0) [] [] 0 := ⟨xb, by omega, x0, x1, x2, x3, Row1.nil _ _ _, rfl⟩
  have HST := Lib.hid hst
  clear x0 x1 x2 x3 xs xb hst hne
  go_loopw [9] (fun i wr => ∃ (k : Nat) (sv : Value) (L : List Ty) (F : List (Array Value)), k ≤ a.subs.length ∧ i = .int .i64 k ∧ PartRel w wr a b na nc sa sc na' nc' sa' sc' B r up sv L F k) (fun i _ => a.subs.length - (intOf i).toNat)
  case atStart => exact ⟨0, _, _, _, Nat.zero_le _, rfl, HST.out⟩
  case round =>
    clear HST
    obtain ⟨k, sv, L, F, hk, rfl, hr⟩ := hrel
    have HR := Lib.hid hr
    have hacc := hr.below
    have hsz := hr.size
    have a6 := hr.boxa.cell 6
    have q6 := hr.boxb.cell 6
    have a0 := hr.boxa.cell 0
    simp [tyCells] at a6 q6 a0
    rw [HK.out] at a0
    by_cases hlt : k < a.subs.length
    · have hlt' : k < b.subs.length := by have := HLE.out; omega
      have hk20 : k < 20 := by omega
      have HLN := Lib.hid hr.len
      have hT1 := (HU.out k hlt).under (hacc.mono hB)
      have hT2 := (HU'.out k hlt').under (hacc.mono hB)
      obtain ⟨b1, o1, na1, nc1, sa1, sc1, rfl, hbb1, hfk1, c0, c1, c2, c3, c4, c5, c6⟩ := TyC.elem (HS.out.keep fun p hp => hacc.cell (p := p) (by omega)) hlt hT1
      obtain ⟨b2, o2, na2, nc2, sa2, sc2, rfl, hbb2, hfk2, d0, d1, d2, d3, d4, d5, d6⟩ := TyC.elem (HS'.out.keep fun p hp => hacc.cell (p := p) (by omega)) hlt' hT2
      rw [hfk1] at hT1
      rw [hfk2] at hT2
      have HT1 := Lib.hid hT1
      have HT2 := Lib.hid hT2
      have HC := Lib.hid (And.intro c0 (And.intro c1 (And.intro c2 (And.intro c3 (And.intro c4 (And.intro c5 c6))))))
      have HD := Lib.hid (And.intro d0 (And.intro d1 (And.intro d2 (And.intro d3 (And.intro d4 (And.intro d5 d6))))))
      have HA6 := Lib.hid a6
      have HQ6 := Lib.hid q6
      have hltI : (k : Int) < (a.subs.length : Int) := by omega
      have hltI' : (k : Int) < (b.subs.length : Int) := by omega
      have hw2 : B ≤ wr.heap.size := by omega
      clear hr hT1 hT2 hfk1 hfk2 c0 c1 c2 c3 c4 c5 c6 d0 d1 d2 d3 d4 d5 d6
      go_upto_region 12 with fail
      go_cut [10] (fun s10 wx => s10 = .bool (decide (a.kind = 7 ∧ k < a.subs.length - 1)) ∧ wx = wr)
      case first =>
        have hw1 : wrap64 ((a.subs.length : Int) - 1) = (a.subs.length : Int) - 1 := by unfold wrap64; omega
        by_cases h1 : (k : Int) < (a.subs.length : Int) - 1
        · have h1d : decide ((k : Int) < (a.subs.length : Int) - 1) = true := by simp [h1]
          go_wp2_with fail
          go_meet
          exact ⟨by have : k < a.subs.length - 1 := by omega
                    simp [HK.out, this], rfl⟩
        · have h1d : decide ((k : Int) < (a.subs.length : Int) - 1) = false := by simp [h1]
          go_wp2_with fail
          go_meet
          exact ⟨by have : ¬ k < a.subs.length - 1 := by omega
                    simp [this], rfl⟩
      case rest =>
        obtain ⟨rfl, rfl⟩ := hcut
        generalize hc7 : decide (a.kind = 7 ∧ k < a.subs.length - 1) = c7
        obtain ⟨v, hv⟩ : ∃ v, (!(up == c7)) = v := ⟨_, rfl⟩
        have HV := Lib.hid hv
        have hway : v = wayOf up a k := by
          subst hv hc7
          unfold wayOf
          by_cases h : a.kind = 7 ∧ k < a.subs.length - 1
          · rw [if_pos h, decide_eq_true h]; cases up <;> rfl
          · rw [if_neg h, decide_eq_false h]; cases up <;> rfl
        have HWY := Lib.hid hway
        clear hway hc7 hv
        go_upto_region 13 with fail
        clear a6 q6 a0
        go_cut [11, 12] (fun s11 s12 wx => ∃ (tb : Nat) (t : Ty) (na3 : Option Addr) (nc3 : Nat) (sa3 : Option Addr) (sc3 : Nat), s11 = .pointer (some ⟨tb, 0, none⟩) ∧ s12 = .bool (r v a.subs[k] b.subs[k]).isSome ∧ CutRel wc wx B t (tyCells t na3 nc3 sa3 sc3) tb ∧ (∀ x, r v a.subs[k] b.subs[k] = some x → t = x))
        case first =>
          refine wp_region_until [(13, fun w' => w'.cell? ⟨w.heap.size, 6, none⟩ = some (.slice (some ⟨b1, o1, none⟩) a.subs.length sc)), (13, fun w' => w'.cell? ⟨w.heap.size + 1, 6, none⟩ = some (.slice (some ⟨b2, o2, none⟩) b.subs.length sc')), (13, fun w' => w'.cell? ⟨b1, o1 + k * 7, none⟩ = some (.int .i64 a.subs[k].kind) ∧ w'.cell? ⟨b1, o1 + k * 7 + 1, none⟩ = some (.string a.subs[k].pkg) ∧ w'.cell? ⟨b1, o1 + k * 7 + 2, none⟩ = some (.int .i64 a.subs[k].major) ∧ w'.cell? ⟨b1, o1 + k * 7 + 3, none⟩ = some (.string a.subs[k].mod) ∧ w'.cell? ⟨b1, o1 + k * 7 + 4, none⟩ = some (.string a.subs[k].name) ∧ w'.cell? ⟨b1, o1 + k * 7 + 5, none⟩ = some (.slice na1 a.subs[k].names.length nc1) ∧ w'.cell? ⟨b1, o1 + k * 7 + 6, none⟩ = some (.slice sa1 a.subs[k].subs.length sc1)), (13, fun w' => w'.cell? ⟨b2, o2 + k * 7, none⟩ = some (.int .i64 b.subs[k].kind) ∧ w'.cell? ⟨b2, o2 + k * 7 + 1, none⟩ = some (.string b.subs[k].pkg) ∧ w'.cell? ⟨b2, o2 + k * 7 + 2, none⟩ = some (.int .i64 b.subs[k].major) ∧ w'.cell? ⟨b2, o2 + k * 7 + 3, none⟩ = some (.string b.subs[k].mod) ∧ w'.cell? ⟨b2, o2 + k * 7 + 4, none⟩ = some (.string b.subs[k].name) ∧ w'.cell? ⟨b2, o2 + k * 7 + 5, none⟩ = some (.slice na2 b.subs[k].names.length nc2) ∧ w'.cell? ⟨b2, o2 + k * 7 + 6, none⟩ = some (.slice sa2 b.subs[k].subs.length sc2))] (by kernel_rfl) (Until.cons (fun _ => HA6.out) (Until.cons (fun _ => HQ6.out) (Until.cons (fun _ => HC.out) (Until.cons (fun _ => HD.out) Until.nil)))) (fun hU => ?_)
          refine AnyU.take (i := 0) (v := ?_) rfl (by kernel_rfl) (by kernel_rfl) (by kernel_rfl) (fun _ _ _ h => h) (by kernel_rfl) (by assumption) (by rfl) ?_ (fun hU => ?_)
          rotate_left 1
          · (intro wq; go_simp; try with_reducible rfl)
          simp only [Act.put, List.getElem_toArray, List.getElem_cons_zero, List.getElem_cons_succ, List.setIfInBounds_toArray, List.set_cons_zero, List.set_cons_succ]
          refine AnyU.loadc (i := 1) (d := 13) [3, 4, 13] (Si := fun w' => w'.cell? ⟨w.heap.size, 6, none⟩ = some (.slice (some ⟨b1, o1, none⟩) a.subs.length sc)) (v := ?_) rfl (by kernel_rfl) (by kernel_rfl) (by kernel_rfl) (fun _ _ _ h => h) (by kernel_rfl) (by assumption) (by kernel_rfl) rfl (by simp) (by rfl) ?_ (fun hU => ?_)
          rotate_left 1
          · (intro wq hq; go_simp; try with_reducible rfl)
          simp only [Act.put, List.getElem_toArray, List.getElem_cons_zero, List.getElem_cons_succ, List.setIfInBounds_toArray, List.set_cons_zero, List.set_cons_succ]
          refine AnyU.take (i := 2) (v := ?_) rfl (by kernel_rfl) (by kernel_rfl) (by kernel_rfl) (fun _ _ _ h => h) (by kernel_rfl) (by assumption) (by rfl) ?_ (fun hU => ?_)
          rotate_left 1
          · (intro wq; go_simp; try with_reducible rfl)
          simp only [Act.put, List.getElem_toArray, List.getElem_cons_zero, List.getElem_cons_succ, List.setIfInBounds_toArray, List.set_cons_zero, List.set_cons_succ]
          refine AnyU.take (i := 3) (v := ?_) rfl (by kernel_rfl) (by kernel_rfl) (by kernel_rfl) (fun _ _ _ h => h) (by kernel_rfl) (by assumption) (by rfl) ?_ (fun hU => ?_)
          rotate_left 1
          · (intro wq; go_simp; try with_reducible rfl)
          simp only [Act.put, List.getElem_toArray, List.getElem_cons_zero, List.getElem_cons_succ, List.setIfInBounds_toArray, List.set_cons_zero, List.set_cons_succ]
          refine AnyU.loadc (i := 4) (d := 13) [13] (Si := fun w' => w'.cell? ⟨b1, o1 + k * 7, none⟩ = some (.int .i64 a.subs[k].kind) ∧ w'.cell? ⟨b1, o1 + k * 7 + 1, none⟩ = some (.string a.subs[k].pkg) ∧ w'.cell? ⟨b1, o1 + k * 7 + 2, none⟩ = some (.int .i64 a.subs[k].major) ∧ w'.cell? ⟨b1, o1 + k * 7 + 3, none⟩ = some (.string a.subs[k].mod) ∧ w'.cell? ⟨b1, o1 + k * 7 + 4, none⟩ = some (.string a.subs[k].name) ∧ w'.cell? ⟨b1, o1 + k * 7 + 5, none⟩ = some (.slice na1 a.subs[k].names.length nc1) ∧ w'.cell? ⟨b1, o1 + k * 7 + 6, none⟩ = some (.slice sa1 a.subs[k].subs.length sc1)) (v := ?_) rfl (by kernel_rfl) (by kernel_rfl) (by kernel_rfl) (fun _ _ _ h => h) (by kernel_rfl) (by assumption) (by kernel_rfl) rfl (by simp) (by rfl) ?_ (fun hU => ?_)
          rotate_left 1
          · (intro wq hq; obtain ⟨u0, u1, u2, u3, u4, u5, u6⟩ := hq; go_simp; try with_reducible rfl)
          simp only [Act.put, List.getElem_toArray, List.getElem_cons_zero, List.getElem_cons_succ, List.setIfInBounds_toArray, List.set_cons_zero, List.set_cons_succ]
          refine AnyU.take (i := 5) (v := ?_) rfl (by kernel_rfl) (by kernel_rfl) (by kernel_rfl) (fun _ _ _ h => h) (by kernel_rfl) (by assumption) (by rfl) ?_ (fun hU => ?_)
          rotate_left 1
          · (intro wq; go_simp; try with_reducible rfl)
          simp only [Act.put, List.getElem_toArray, List.getElem_cons_zero, List.getElem_cons_succ, List.setIfInBounds_toArray, List.set_cons_zero, List.set_cons_succ]
          refine AnyU.loadc (i := 6) (d := 13) [8, 9, 13] (Si := fun w' => w'.cell? ⟨w.heap.size + 1, 6, none⟩ = some (.slice (some ⟨b2, o2, none⟩) b.subs.length sc')) (v := ?_) rfl (by kernel_rfl) (by kernel_rfl) (by kernel_rfl) (fun _ _ _ h => h) (by kernel_rfl) (by assumption) (by kernel_rfl) rfl (by simp) (by rfl) ?_ (fun hU => ?_)
          rotate_left 1
          · (intro wq hq; go_simp; try with_reducible rfl)
          simp only [Act.put, List.getElem_toArray, List.getElem_cons_zero, List.getElem_cons_succ, List.setIfInBounds_toArray, List.set_cons_zero, List.set_cons_succ]
          refine AnyU.take (i := 7) (v := ?_) rfl (by kernel_rfl) (by kernel_rfl) (by kernel_rfl) (fun _ _ _ h => h) (by kernel_rfl) (by assumption) (by rfl) ?_ (fun hU => ?_)
          rotate_left 1
          · (intro wq; go_simp; try with_reducible rfl)
          simp only [Act.put, List.getElem_toArray, List.getElem_cons_zero, List.getElem_cons_succ, List.setIfInBounds_toArray, List.set_cons_zero, List.set_cons_succ]
          refine AnyU.take (i := 8) (v := ?_) rfl (by kernel_rfl) (by kernel_rfl) (by kernel_rfl) (fun _ _ _ h => h) (by kernel_rfl) (by assumption) (by rfl) ?_ (fun hU => ?_)
          rotate_left 1
          · (intro wq; go_simp; try with_reducible rfl)
          simp only [Act.put, List.getElem_toArray, List.getElem_cons_zero, List.getElem_cons_succ, List.setIfInBounds_toArray, List.set_cons_zero, List.set_cons_succ]
          refine AnyU.loadc (i := 9) (d := 13) [13] (Si := fun w' => w'.cell? ⟨b2, o2 + k * 7, none⟩ = some (.int .i64 b.subs[k].kind) ∧ w'.cell? ⟨b2, o2 + k * 7 + 1, none⟩ = some (.string b.subs[k].pkg) ∧ w'.cell? ⟨b2, o2 + k * 7 + 2, none⟩ = some (.int .i64 b.subs[k].major) ∧ w'.cell? ⟨b2, o2 + k * 7 + 3, none⟩ = some (.string b.subs[k].mod) ∧ w'.cell? ⟨b2, o2 + k * 7 + 4, none⟩ = some (.string b.subs[k].name) ∧ w'.cell? ⟨b2, o2 + k * 7 + 5, none⟩ = some (.slice na2 b.subs[k].names.length nc2) ∧ w'.cell? ⟨b2, o2 + k * 7 + 6, none⟩ = some (.slice sa2 b.subs[k].subs.length sc2)) (v := ?_) rfl (by kernel_rfl) (by kernel_rfl) (by kernel_rfl) (fun _ _ _ h => h) (by kernel_rfl) (by assumption) (by kernel_rfl) rfl (by simp) (by rfl) ?_ (fun hU => ?_)
          rotate_left 1
          · (intro wq hq; obtain ⟨u0, u1, u2, u3, u4, u5, u6⟩ := hq; go_simp; try with_reducible rfl)
          simp only [Act.put, List.getElem_toArray, List.getElem_cons_zero, List.getElem_cons_succ, List.setIfInBounds_toArray, List.set_cons_zero, List.set_cons_succ]
          refine AnyU.take (i := 10) (v := ?_) rfl (by kernel_rfl) (by kernel_rfl) (by kernel_rfl) (fun _ _ _ h => h) (by kernel_rfl) (by assumption) (by rfl) ?_ (fun hU => ?_)
          rotate_left 1
          · (intro wq; go_simp; try with_reducible rfl)
          simp only [Act.put, List.getElem_toArray, List.getElem_cons_zero, List.getElem_cons_succ, List.setIfInBounds_toArray, List.set_cons_zero, List.set_cons_succ]
          refine AnyU.take (i := 11) (v := ?_) rfl (by kernel_rfl) (by kernel_rfl) (by kernel_rfl) (fun _ _ _ h => h) (by kernel_rfl) (by assumption) (by rfl) ?_ (fun hU => ?_)
          rotate_left 1
          · (intro wq; go_simp; try with_reducible rfl)
          simp only [Act.put, List.getElem_toArray, List.getElem_cons_zero, List.getElem_cons_succ, List.setIfInBounds_toArray, List.set_cons_zero, List.set_cons_succ]
          refine AnyU.take (i := 12) (v := ?_) rfl (by kernel_rfl) (by kernel_rfl) (by kernel_rfl) (fun _ _ _ h => h) (by kernel_rfl) (by assumption) (by rfl) ?_ (fun hU => ?_)
          rotate_left 1
          · (intro wq; go_simp; try with_reducible rfl)
          simp only [Act.put, List.getElem_toArray, List.getElem_cons_zero, List.getElem_cons_succ, List.setIfInBounds_toArray, List.set_cons_zero, List.set_cons_succ]
          refine AnyU.ready2 (i := 13) (j := 17) (by kernel_rfl) (AnyU.one rfl fun K hK => ?_) (AnyU.one rfl fun K hK => ?_)
          · go_simp
            go_at_call 21
            rw [HV.out]
            refine (HI.out a.subs[k] b.subs[k] v (List.getElem_mem hlt) (List.getElem_mem hlt') _ _ B wc.drew (HT1.out.keep fun _ _ => rfl) (HT2.out.keep fun _ _ => rfl) hw2).mono ?_
            rintro e w3 ⟨⟨t, cr, rfl, hrt, htm⟩, hb3⟩
            obtain ⟨na3, nc3, sa3, sc3, f3, rfl, -⟩ := htm.inv
            simp only [tyCells]
            have HAL := Lib.hid (show Below wc.heap.size wc w3 from (Below.refl _ _).drew.trans hb3)
            have HTM := Lib.hid htm
            have HRT := Lib.hid hrt
            clear htm hb3 hrt
            refine hK.out _ _ (Until.off (by kernel_rfl)) (fun hU => ?_)
            clear hK K
            try simp only [Act.put, List.getElem_toArray, List.getElem_cons_zero, List.getElem_cons_succ, List.setIfInBounds_toArray, List.set_cons_zero, List.set_cons_succ]
            refine AnyU.take (i := 14) (v := ?_) rfl (by kernel_rfl) (by kernel_rfl) (by kernel_rfl) (fun _ _ _ h => h) (by kernel_rfl) (by assumption) (by rfl) ?_ (fun hU => ?_)
            rotate_left 1
            · (intro wq; go_simp; try with_reducible rfl)
            simp only [Act.put, List.getElem_toArray, List.getElem_cons_zero, List.getElem_cons_succ, List.setIfInBounds_toArray, List.set_cons_zero, List.set_cons_succ]
            refine AnyU.take (i := 15) (v := ?_) rfl (by kernel_rfl) (by kernel_rfl) (by kernel_rfl) (fun _ _ _ h => h) (by kernel_rfl) (by assumption) (by rfl) ?_ (fun hU => ?_)
            rotate_left 1
            · (intro wq; go_simp; try with_reducible rfl)
            simp only [Act.put, List.getElem_toArray, List.getElem_cons_zero, List.getElem_cons_succ, List.setIfInBounds_toArray, List.set_cons_zero, List.set_cons_succ]
            refine AnyU.take (i := 16) (v := ?_) rfl (by kernel_rfl) (by kernel_rfl) (by kernel_rfl) (fun _ _ _ h => h) (by kernel_rfl) (by assumption) (by rfl) ?_ (fun hU => ?_)
            rotate_left 1
            · (intro wq; go_simp; try with_reducible rfl)
            simp only [Act.put, List.getElem_toArray, List.getElem_cons_zero, List.getElem_cons_succ, List.setIfInBounds_toArray, List.set_cons_zero, List.set_cons_succ]
            refine AnyU.ready1 (i := 17) (by kernel_rfl) (AnyU.one rfl fun K hK => ?_)
            go_simp
            refine hK.out _ _ (Until.off (by kernel_rfl)) (fun hU => ?_)
            clear hK K
            try simp only [Act.put, List.getElem_toArray, List.getElem_cons_zero, List.getElem_cons_succ, List.setIfInBounds_toArray, List.set_cons_zero, List.set_cons_succ]
            refine AnyU.ready1 (i := 18) (by kernel_rfl) (AnyU.one rfl fun K hK => ?_)
            go_simp
            refine hK.out _ _ (Until.off (by kernel_rfl)) (fun hU => ?_)
            clear hK K
            try simp only [Act.put, List.getElem_toArray, List.getElem_cons_zero, List.getElem_cons_succ, List.setIfInBounds_toArray, List.set_cons_zero, List.set_cons_succ]
            refine AnyU.take (i := 19) (v := ?_) rfl (by kernel_rfl) (by kernel_rfl) (by kernel_rfl) (fun _ _ _ h => h) (by kernel_rfl) (by assumption) (by rfl) ?_ (fun hU => ?_)
            rotate_left 1
            · (intro wq; go_simp; try with_reducible rfl)
            simp only [Act.put, List.getElem_toArray, List.getElem_cons_zero, List.getElem_cons_succ, List.setIfInBounds_toArray, List.set_cons_zero, List.set_cons_succ]
            refine AnyU.done (by kernel_rfl) ?_
            have hq := CutRel.one (W2 := wc) (X := wc.drew) hw2 (Below.refl _ _) HAL.out (Nat.le_refl _) HTM.out
            simp only [tyCells] at hq
            generalize (w3.alloc (.cells #[.int .i64 t.kind, .string t.pkg, .int .i64 t.major, .string t.mod, .string t.name, .slice na3 t.names.length nc3, .slice sa3 t.subs.length sc3] 25)) = Wz at hq ⊢
            have HQ := Lib.hid hq
            clear hq hU
            go_wp2_with fail
            go_meet
            exact ⟨_, _, _, _, _, _, rfl, rfl, HQ.out, HRT.out⟩
          · go_simp
            have hX2 : wc.heap.size + 1 ≤ (wc.alloc (.cells #[.int .i64 0, .string { data := #[] }, .int .i64 0, .string { data := #[] }, .string { data := #[] }, .slice none 0 0, .slice none 0 0] 25)).drew.heap.size := by
              show wc.heap.size + 1 ≤ (wc.alloc _).heap.size
              simp
            have hbA := ((Below.refl wc.heap.size wc).alloc (Nat.le_refl _) (.cells #[.int .i64 0, .string { data := #[] }, .int .i64 0, .string { data := #[] }, .string { data := #[] }, .slice none 0 0, .slice none 0 0] 25)).drew
            refine hK.out _ _ (Until.cons (fun _ => (hbA.cell (by simp; omega)).trans HA6.out) (Until.cons (fun _ => (hbA.cell (by simp; omega)).trans HQ6.out) (Until.cons (fun _ => keep7 hbA (by omega) HC.out) (Until.cons (fun _ => keep7 hbA (by omega) HD.out) Until.nil)))) (fun hU => ?_)
            clear hK K
            try simp only [Act.put, List.getElem_toArray, List.getElem_cons_zero, List.getElem_cons_succ, List.setIfInBounds_toArray, List.set_cons_zero, List.set_cons_succ]
            refine AnyU.ready1 (i := 13) (by kernel_rfl) (AnyU.one rfl fun K hK => ?_)
            go_simp
            go_at_call 21
            rw [HV.out]
            refine (HI.out a.subs[k] b.subs[k] v (List.getElem_mem hlt) (List.getElem_mem hlt') _ _ B (wc.alloc (.cells #[.int .i64 0, .string { data := #[] }, .int .i64 0, .string { data := #[] }, .string { data := #[] }, .slice none 0 0, .slice none 0 0] 25)).drew ((HT1.out.alloc hw2 _).keep fun _ _ => rfl) ((HT2.out.alloc hw2 _).keep fun _ _ => rfl) (by show B ≤ (wc.alloc _).heap.size; simp; omega)).mono ?_
            rintro e w3 ⟨⟨t, cr, rfl, hrt, htm⟩, hb3⟩
            obtain ⟨na3, nc3, sa3, sc3, f3, rfl, -⟩ := htm.inv
            simp only [tyCells]
            have zb : Blk w3 wc.heap.size #[.int .i64 0, .string { data := #[] }, .int .i64 0, .string { data := #[] }, .string { data := #[] }, .slice none 0 0, .slice none 0 0] 25 := (Blk.new wc #[.int .i64 0, .string { data := #[] }, .int .i64 0, .string { data := #[] }, .string { data := #[] }, .slice none 0 0, .slice none 0 0] 25).drew.under hb3 (by show wc.heap.size < (wc.alloc _).heap.size; simp)
            have HAL := Lib.hid (show Below wc.heap.size wc w3 from ((Below.refl wc.heap.size wc).alloc (Nat.le_refl _) _).drew.trans (hb3.mono (by show wc.heap.size ≤ (wc.alloc _).heap.size; simp)))
            have z0 := zb.cell 0
            have zf0 := zb.free 0
            have z1 := zb.cell 1
            have zf1 := zb.free 1
            have z2 := zb.cell 2
            have zf2 := zb.free 2
            have z3 := zb.cell 3
            have zf3 := zb.free 3
            have z4 := zb.cell 4
            have zf4 := zb.free 4
            have z5 := zb.cell 5
            have zf5 := zb.free 5
            have z6 := zb.cell 6
            have zf6 := zb.free 6
            simp at z0 z1 z2 z3 z4 z5 z6
            have HZB := Lib.hid zb
            have HTM := Lib.hid htm
            have HRT := Lib.hid hrt
            clear htm hb3 hrt zb
            refine hK.out _ _ (Until.off (by kernel_rfl)) (fun hU => ?_)
            clear hK K
            try simp only [Act.put, List.getElem_toArray, List.getElem_cons_zero, List.getElem_cons_succ, List.setIfInBounds_toArray, List.set_cons_zero, List.set_cons_succ]
            refine AnyU.take (i := 14) (v := ?_) rfl (by kernel_rfl) (by kernel_rfl) (by kernel_rfl) (fun _ _ _ h => h) (by kernel_rfl) (by assumption) (by rfl) ?_ (fun hU => ?_)
            rotate_left 1
            · (intro wq; go_simp; try with_reducible rfl)
            simp only [Act.put, List.getElem_toArray, List.getElem_cons_zero, List.getElem_cons_succ, List.setIfInBounds_toArray, List.set_cons_zero, List.set_cons_succ]
            refine AnyU.take (i := 15) (v := ?_) rfl (by kernel_rfl) (by kernel_rfl) (by kernel_rfl) (fun _ _ _ h => h) (by kernel_rfl) (by assumption) (by rfl) ?_ (fun hU => ?_)
            rotate_left 1
            · (intro wq; go_simp; try with_reducible rfl)
            simp only [Act.put, List.getElem_toArray, List.getElem_cons_zero, List.getElem_cons_succ, List.setIfInBounds_toArray, List.set_cons_zero, List.set_cons_succ]
            refine AnyU.take (i := 16) (v := ?_) rfl (by kernel_rfl) (by kernel_rfl) (by kernel_rfl) (fun _ _ _ h => h) (by kernel_rfl) (by assumption) (by rfl) ?_ (fun hU => ?_)
            rotate_left 1
            · (intro wq; go_simp; try with_reducible rfl)
            simp only [Act.put, List.getElem_toArray, List.getElem_cons_zero, List.getElem_cons_succ, List.setIfInBounds_toArray, List.set_cons_zero, List.set_cons_succ]
            refine AnyU.ready1 (i := 18) (by kernel_rfl) (AnyU.one rfl fun K hK => ?_)
            go_simp
            refine hK.out _ _ (Until.off (by kernel_rfl)) (fun hU => ?_)
            clear hK K
            try simp only [Act.put, List.getElem_toArray, List.getElem_cons_zero, List.getElem_cons_succ, List.setIfInBounds_toArray, List.set_cons_zero, List.set_cons_succ]
            refine AnyU.take (i := 19) (v := ?_) rfl (by kernel_rfl) (by kernel_rfl) (by kernel_rfl) (fun _ _ _ h => h) (by kernel_rfl) (by assumption) (by rfl) ?_ (fun hU => ?_)
            rotate_left 1
            · (intro wq; go_simp; try with_reducible rfl)
            simp only [Act.put, List.getElem_toArray, List.getElem_cons_zero, List.getElem_cons_succ, List.setIfInBounds_toArray, List.set_cons_zero, List.set_cons_succ]
            refine AnyU.done (by kernel_rfl) ?_
            have hq := CutRel.two (W2 := wc) (X := (wc.alloc (.cells #[.int .i64 0, .string { data := #[] }, .int .i64 0, .string { data := #[] }, .string { data := #[] }, .slice none 0 0, .slice none 0 0] 25)).drew) hw2 (Below.refl _ _) HAL.out hX2 HZB.out HTM.out
            generalize (((((((((((((w3.setCell ⟨wc.heap.size, 0, none⟩ (.int .i64 t.kind))).setCell ⟨wc.heap.size, 1, none⟩ (.string t.pkg))).setCell ⟨wc.heap.size, 2, none⟩ (.int .i64 t.major))).setCell ⟨wc.heap.size, 3, none⟩ (.string t.mod))).setCell ⟨wc.heap.size, 4, none⟩ (.string t.name))).setCell ⟨wc.heap.size, 5, none⟩ (.slice na3 t.names.length nc3))).setCell ⟨wc.heap.size, 6, none⟩ (.slice sa3 t.subs.length sc3)) = Wz at hq ⊢
            have HQ := Lib.hid hq
            clear hq hU z0 z1 z2 z3 z4 z5 z6 zf0 zf1 zf2 zf3 zf4 zf5 zf6
            go_wp2_with fail
            go_meet
            exact ⟨_, _, _, _, _, _, rfl, rfl, HQ.out, HRT.out⟩
        case rest =>
          obtain ⟨tb, t, na3, nc3, sa3, sc3, rfl, rfl, hc, hrt⟩ := hcut
          have HC := Lib.hid hc
          have hG : partG r up a b k = r v a.subs[k] b.subs[k] := by rw [HWY.out]; exact partG_at r up a b k hlt hlt'
          have HG := Lib.hid hG
          clear hG
          have hrs := HR.out.res.under HC.out.below HR.out.res.lt
          have z0 := hrs.cell 0
          have f0 := hrs.free 0
          have z1 := hrs.cell 1
          have f1 := hrs.free 1
          have z2 := hrs.cell 2
          have f2 := hrs.free 2
          have z3 := hrs.cell 3
          have f3 := hrs.free 3
          have z4 := hrs.cell 4
          have f4 := hrs.free 4
          have z5 := hrs.cell 5
          have f5 := hrs.free 5
          have z6 := hrs.cell 6
          have f6 := hrs.free 6
          simp at z0 z1 z2 z3 z4 z5 z6
          have HRS := Lib.hid hrs
          clear hrs
          cases hr : r v a.subs[k] b.subs[k]
          · clear hc hrt
            have hp : partsR r up a b = none := partsR_none r up a b k hlt (HG.out.trans hr)
            have HP := Lib.hid hp
            clear hr hp
            simp only [Option.isSome_none]
            go_wp2_with fail
            have hblk := put7_full (.int .i64 0) (.string { data := #[] }) (.int .i64 0) (.string { data := #[] }) (.string { data := #[] }) (.slice none 0 0) (.slice none 0 0) HRS.out
            have hbl := put7_bel (.int .i64 0) (.string { data := #[] }) (.int .i64 0) (.string { data := #[] }) (.string { data := #[] }) (.slice none 0 0) (.slice none 0 0) (acc0 hacc (by omega) HC.out.below) (show w.heap.size ≤ w.heap.size + 1 + 1 by omega)
            generalize (((((((wc.setCell ⟨w.heap.size + 1 + 1, 0, none⟩ (.int .i64 0)).setCell ⟨w.heap.size + 1 + 1, 1, none⟩ (.string { data := #[] })).setCell ⟨w.heap.size + 1 + 1, 2, none⟩ (.int .i64 0)).setCell ⟨w.heap.size + 1 + 1, 3, none⟩ (.string { data := #[] })).setCell ⟨w.heap.size + 1 + 1, 4, none⟩ (.string { data := #[] })).setCell ⟨w.heap.size + 1 + 1, 5, none⟩ (.slice none 0 0)).setCell ⟨w.heap.size + 1 + 1, 6, none⟩ (.slice none 0 0)) = Wz at hblk hbl ⊢
            have p0 := hblk.cell 0
            have p1 := hblk.cell 1
            have p2 := hblk.cell 2
            have p3 := hblk.cell 3
            have p4 := hblk.cell 4
            have p5 := hblk.cell 5
            have p6 := hblk.cell 6
            simp at p0 p1 p2 p3 p4 p5 p6
            refine bodyPost_ret (by simp [results, Try.results21, go_sem, p0, p1, p2, p3, p4, p5, p6]; try rfl) rfl ?_
            exact ⟨⟨zeroTy, _, (by rw [HP.out]; rfl), fun x h => (by rw [HP.out] at h; cases h), (zero_tyc _ B).toM.mono fun b hb => Or.inl hb⟩, hbl⟩
          · obtain rfl := hrt _ hr
            have hG2 : partG r up a b k = some t := HG.out.trans hr
            have HG2 := Lib.hid hG2
            have hbx := HR.out.out.under hc.below HR.out.out.lt
            have htb := hc.blk
            have e6 := hbx.cell 6
            have g6 := hbx.free 6
            have hlb := hbx.lt
            have hlt3 := htb.lt
            have t0 := htb.cell 0
            have t1 := htb.cell 1
            have t2 := htb.cell 2
            have t3 := htb.cell 3
            have t4 := htb.cell 4
            have t5 := htb.cell 5
            have t6 := htb.cell 6
            simp [tyCells] at e6 t0 t1 t2 t3 t4 t5 t6
            have hrw := HR.out.rows.under hc.below (by omega)
            have HBX := Lib.hid hbx
            have HTB := Lib.hid htb
            have hown2 := fun g hg => owns_lt HR.out.rows.row (g := g) hg
            have hlo := hc.lo
            have hbw := hc.below.size
            have hsb : sv.ownBlock ≠ some (w.heap.size + 1 + 1 + 1) := fun e => by have := hown2 _ e; omega
            have HRW := Lib.hid hrw
            clear hc hrt hr hbx htb hrw hown2 hG2
            simp only [Option.isSome_some]
            have hone7 : ∀ u ∈ (#[.int .i64 t.kind, .string t.pkg, .int .i64 t.major, .string t.mod, .string t.name, .slice na3 t.names.length nc3, .slice sa3 t.subs.length sc3] : Array Value).toList, u.oneCell' = true := by simp [Value.oneCell']
            have hml : L.length + 1 ≤ maxLen := by have := HLN.out; unfold maxLen; omega
            have hb112 : (L.length + 1) * 112 ≤ 140737488355328 := by have := HLN.out; omega
            have hX3 : Below wc.heap.size wc (wc.alloc (.cells #[.int .i64 t.kind, .string t.pkg, .int .i64 t.major, .string t.mod, .string t.name, .slice na3 t.names.length nc3, .slice sa3 t.subs.length sc3] 25)) := (Below.refl _ _).alloc (Nat.le_refl _) _
            have hX3s : w.heap.size + 4 ≤ (wc.alloc (.cells #[.int .i64 t.kind, .string t.pkg, .int .i64 t.major, .string t.mod, .string t.name, .slice na3 t.names.length nc3, .slice sa3 t.subs.length sc3] 25)).heap.size := by simp; omega
            have HX3 := Lib.hid hX3
            clear hX3
            go_wp2_with (at_builtin; refine wpList_append_lies (wc.alloc (.cells #[.int .i64 t.kind, .string t.pkg, .int .i64 t.major, .string t.mod, .string t.name, .slice na3 t.names.length nc3, .slice sa3 t.subs.length sc3] 25)) rfl _ _ 23 rfl (w.heap.size + 4) 25 iS (.agg zeroCells) 7 112 Try.underlying23 hiS hzS0 hzS1 hzS2 rfl (by decide) sv L.length (F.flatMap (·.toList)) rfl (owns_under HRW.out.row HX3.out) ⟨wc.heap.size, 0, none⟩ 1 1 (#[.int .i64 t.kind, .string t.pkg, .int .i64 t.major, .string t.mod, .string t.name, .slice na3 t.names.length nc3, .slice sa3 t.subs.length sc3] : Array Value).toList rfl (by rfl) (World.news_of_block (cs := #[.int .i64 t.kind, .string t.pkg, .int .i64 t.major, .string t.mod, .string t.name, .slice na3 t.names.length nc3, .slice sa3 t.subs.length sc3]) (t := 25) (fr := (0, 0)) (heap_alloc_new wc _)) hone7 (by decide) hml hb112 hX3s _ rfl ?_; intro gS cS x4 hownS hgS hatS hltS; obtain ⟨e5', e6', f5', f6'⟩ := grown_box2 hgS (HBX.out.under HX3.out HBX.out.lt) hsb; have HOS := Lib.hid hownS; have HGS := Lib.hid hgS; have HAS := Lib.hid hatS; clear hownS hgS hatS)
            have hnx := HR.out.next hB HC.out HG2.out HX3.out HGS.out HOS.out (HAS.out.imp id fun e => by rw [e]; exact HX3.out.size)
            first
              | exact ⟨⟨k + 1, _, _, _, by omega, by go_num, hnx⟩, by simp [intOf]; omega⟩
              | (go_roundw
                 case rel => exact ⟨k + 1, _, _, _, by omega, by go_num, hnx⟩
                 case measure => simp [intOf]; omega)
    · have hke : k = a.subs.length := by omega
      obtain ⟨A2, m2, c2, rfl⟩ := own_form hr.rows.row
      have o0 := hr.out.cell 0
      have z0 := hr.res.cell 0
      have f0 := hr.res.free 0
      have o1 := hr.out.cell 1
      have z1 := hr.res.cell 1
      have f1 := hr.res.free 1
      have o2 := hr.out.cell 2
      have z2 := hr.res.cell 2
      have f2 := hr.res.free 2
      have o3 := hr.out.cell 3
      have z3 := hr.res.cell 3
      have f3 := hr.res.free 3
      have o4 := hr.out.cell 4
      have z4 := hr.res.cell 4
      have f4 := hr.res.free 4
      have o5 := hr.out.cell 5
      have z5 := hr.res.cell 5
      have f5 := hr.res.free 5
      have o6 := hr.out.cell 6
      have z6 := hr.res.cell 6
      have f6 := hr.res.free 6
      simp at o0 z0 o1 z1 o2 z2 o3 z3 o4 z4 o5 z5 o6 z6
      have hkx : ¬ (k : Int) < (a.subs.length : Int) := by omega
      have hp : partsR r up a b = some (.mk a.kind { data := #[] } 0 { data := #[] } { data := #[] } [] L) := partsR_some r up a b L HLE.out (by rw [← hke]; exact hr.got)
      have HP := Lib.hid hp
      have hL20 : L.length ≤ 20 := by have := hr.len; omega
      have HL20 := Lib.hid hL20
      clear hr hp hke hL20
      go_wp2_with fail
      have hlast := HR.out.last hB HF.out HL20.out (.int .i64 a.kind) (.string { data := #[] }) (.int .i64 0) (.string { data := #[] }) (.string { data := #[] }) (.slice none 0 0) (.slice A2 m2 c2)
      have hblk := put7_full (.int .i64 a.kind) (.string { data := #[] }) (.int .i64 0) (.string { data := #[] }) (.string { data := #[] }) (.slice none 0 0) (.slice A2 m2 c2) HR.out.res
      simp only [put7_zero] at hlast
      generalize (((((((wr.setCell ⟨w.heap.size + 1 + 1, 0, none⟩ (.int .i64 a.kind)).setCell ⟨w.heap.size + 1 + 1, 1, none⟩ (.string { data := #[] })).setCell ⟨w.heap.size + 1 + 1, 2, none⟩ (.int .i64 0)).setCell ⟨w.heap.size + 1 + 1, 3, none⟩ (.string { data := #[] })).setCell ⟨w.heap.size + 1 + 1, 4, none⟩ (.string { data := #[] })).setCell ⟨w.heap.size + 1 + 1, 5, none⟩ (.slice none 0 0)).setCell ⟨w.heap.size + 1 + 1, 6, none⟩ (.slice A2 m2 c2)) = Wz at hlast hblk ⊢
      have q0 := hblk.cell 0
      have q1 := hblk.cell 1
      have q2 := hblk.cell 2
      have q3 := hblk.cell 3
      have q4 := hblk.cell 4
      have q5 := hblk.cell 5
      have q6 := hblk.cell 6
      simp at q0 q1 q2 q3 q4 q5 q6
      refine bodyPost_ret (by simp [results, Try.results21, go_sem, q0, q1, q2, q3, q4, q5, q6]; try rfl) rfl ?_
      exact ⟨⟨_, _, (by rw [HP.out]; rfl), fun x hx => (by rw [HP.out] at hx; exact Option.some.inj hx), hlast.1⟩, hlast.2⟩
end Go.Proofs.Ytalpmjmifcofeaa
