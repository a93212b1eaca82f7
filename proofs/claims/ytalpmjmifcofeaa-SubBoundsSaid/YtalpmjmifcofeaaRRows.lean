/- The contract of merlonref09.Bound at records and variants. -/
import Derived.Test.YtalpmjmifcofeaaRRowsA
import Derived.Test.YtalpmjmifcofeaaRefSubB
import Derived.Test.YtalpmjmifcofeaaRegM
import Derived.Test.YtalpmjmifcofeaaRParts
import Derived.Deep.DeepCutAuto
import Derived.Deep.Cut
namespace Go.Proofs.Ytalpmjmifcofeaa
open Go.RowKit
set_option linter.unusedSimpArgs false
set_option linter.unusedVariables false
set_option maxRecDepth 100000 in
set_option maxHeartbeats 40000000 in
theorem rbound_rows5 (r : Ty → Ty → Option Ty) (a b : Ty) (up : Bool) (al : Bool) (hal : (!up) = al) (hk : a.kind = 5) (hk' : b.kind = 5) (hra : RowsOk a) (hrb : RowsOk b) (hla : a.subs.length ≤ 20) (hlb : b.subs.length ≤ 20) (hna : a.names.length = a.subs.length) (hnb : b.names.length = b.subs.length)
    (hbd : ∀ x y, x ∈ a.subs → y ∈ b.subs → RBoundAt x y up (r x y)) : RBoundAt a b up (rowsR r a b al) := by
  intro cs cs' B w ha hb hB
  have HI := Lib.hid hbd
  obtain ⟨na, nc, sa, sc, f, rfl, hfa, hn, hs, -, -, hsub⟩ := ha.inv
  obtain ⟨na', nc', sa', sc', f', rfl, hfb, hn', hs', -, -, hsub'⟩ := hb.inv
  have HF := Lib.hid hfa
  have HFB := Lib.hid hfb
  have HN := Lib.hid hn
  have HN' := Lib.hid hn'
  have HS := Lib.hid hs
  have HU := Lib.hid hsub
  have HS' := Lib.hid hs'
  have HU' := Lib.hid hsub'
  have HK := Lib.hid hk
  have HK' := Lib.hid hk'
  have HRA := Lib.hid hra
  have HRB := Lib.hid hrb
  have HNA := Lib.hid hna
  have HNB := Lib.hid hnb
  have HKK := Lib.hid (show a.kind = 5 ∨ (a.kind = 6 ∧ 0 < a.names.length) from .inl hk)
  clear ha hb hn hs hsub hn' hs' hsub' hbd hfa hfb hra hrb hna hnb
  go_enter Try.func21, Try.ntmps21
  simp only [tyCells]
  rw [hk, hk']
  clear hk hk'
  go_upto_region 21 with fail
  have h4 := boxes4 w #[.int .i64 5, .string a.pkg, .int .i64 a.major, .string a.mod, .string a.name, .slice na a.names.length nc, .slice sa a.subs.length sc] #[.int .i64 5, .string b.pkg, .int .i64 b.major, .string b.mod, .string b.name, .slice na' b.names.length nc', .slice sa' b.subs.length sc'] #[.int .i64 0, .string { data := #[] }, .int .i64 0, .string { data := #[] }, .string { data := #[] }, .slice none 0 0, .slice none 0 0] #[.int .i64 5, .string { data := #[] }, .int .i64 0, .string { data := #[] }, .string { data := #[] }, .slice none 0 0, .slice none 0 0] 25
  generalize ((((w.alloc (.cells #[.int .i64 5, .string a.pkg, .int .i64 a.major, .string a.mod, .string a.name, .slice na a.names.length nc, .slice sa a.subs.length sc] 25)).alloc (.cells #[.int .i64 5, .string b.pkg, .int .i64 b.major, .string b.mod, .string b.name, .slice na' b.names.length nc', .slice sa' b.subs.length sc'] 25)).alloc (.cells #[.int .i64 0, .string { data := #[] }, .int .i64 0, .string { data := #[] }, .string { data := #[] }, .slice none 0 0, .slice none 0 0] 25)).alloc (.cells #[.int .i64 5, .string { data := #[] }, .int .i64 0, .string { data := #[] }, .string { data := #[] }, .slice none 0 0, .slice none 0 0] 25)) = W at h4 ⊢
  obtain ⟨x0, x1, x2, x3, xs, xb⟩ := h4
  rw [← HK.out] at x0 x3
  rw [← HK'.out] at x1
  generalize hal' : (!up) = al'
  obtain rfl : al = al' := hal.symm.trans hal'
  have HAL := Lib.hid hal
  clear hal hal'
  have hst := RMem.start (B := B) x0 x1 x2 x3 xs xb HF.out
  have HST := Lib.hid hst
  clear x0 x1 x2 x3 xs xb hst
  have hs0 : RSt [] (fun n => n ∈ a.names.take 0) (gA r a b al) := RSt.nil _ (by simp)
  have HS0 := Lib.hid hs0
  clear hs0
  go_wp2_with fail
  go_loopw [14] (fun i wr => ∃ (k : Nat) (L : List (ByteArray × Ty)) (co : Array Value), k ≤ a.names.length ∧ i = .int .i64 k ∧ RMem w wr a b na nc sa sc na' nc' sa' sc' B L co ∧ RSt L (fun n => n ∈ a.names.take k) (gA r a b al) ∧ AllA r a b al k ∧ L.length ≤ 2 * k) (fun i _ => a.names.length - (intOf i).toNat)
  case atStart => exact ⟨0, _, _, Nat.zero_le _, rfl, HST.out, HS0.out, all_zero, Nat.zero_le _⟩
  case round =>
    clear HST HS0
    obtain ⟨k, L, co, hk, rfl, hr, hrs, hall, hlen⟩ := hrel
    obtain ⟨naC, ncC, saC, scC, rfl⟩ := hr.form
    have HR := Lib.hid hr
    have HRS := Lib.hid hrs
    have HALL := Lib.hid hall
    have HLN := Lib.hid hlen
    have hacc := hr.below
    have hsz := hr.size
    have a5 := hr.boxa.cell 5
    have b5 := hr.boxb.cell 5
    simp [tyCells] at a5 b5
    clear hrs hall hlen
    by_cases hlt : k < a.names.length
    · have hlt' : k < a.subs.length := by have := HNA.out; omega
      have hk20 : k < 20 := by omega
      have hnk : ∃ b1 o1, na = some ⟨b1, o1, none⟩ ∧ wr.cell? ⟨b1, o1 + k, none⟩ = some (.string a.names[k]) ∧ b1 < B := by
        rcases HN.out with h | ⟨b1, o1, h1, h2, h3⟩
        · rw [h] at hlt; simp at hlt
        · exact ⟨b1, o1, h1, (hacc.cell (p := ⟨b1, o1 + k, none⟩) (by simp; omega)).trans (h3 k hlt), h2⟩
      obtain ⟨b1, o1, rfl, hcn, hb1⟩ := hnk
      have HA5 := Lib.hid a5
      have HB5 := Lib.hid b5
      have HCN := Lib.hid hcn
      have hltI : (k : Int) < (a.names.length : Int) := by omega
      have hltJ : (k : Int) < (a.subs.length : Int) := by omega
      have hBr : B ≤ wr.heap.size := by omega
      clear hr
      go_upto_region 24 with fail
      clear a5 b5 hcn
      go_cut [15] (fun s15 wx => s15 = .int .i64 (ofI b.names a.names[k]) ∧ Below wr.heap.size wr wx)
      case first =>
        refine wp_region_until [(7, fun w' => w'.cell? ⟨w.heap.size + 1, 5, none⟩ = some (.slice na' b.names.length nc')), (7, fun w' => w'.cell? ⟨w.heap.size, 5, none⟩ = some (.slice (some ⟨b1, o1, none⟩) a.names.length nc)), (7, fun w' => w'.cell? ⟨b1, o1 + k, none⟩ = some (.string a.names[k]))] (by kernel_rfl) (Until.cons (fun _ => HB5.out) (Until.cons (fun _ => HA5.out) (Until.cons (fun _ => HCN.out) Until.nil))) (fun hU => ?_)
        refine AnyU.take (i := 0) (v := ?_) rfl (by kernel_rfl) (by kernel_rfl) (by kernel_rfl) (fun _ _ _ h => h) (by kernel_rfl) (by assumption) (by rfl) ?_ (fun hU => ?_)
        rotate_left 1
        · (intro wq; go_simp; try with_reducible rfl)
        simp only [Act.put, List.getElem_toArray, List.getElem_cons_zero, List.getElem_cons_succ, List.setIfInBounds_toArray, List.set_cons_zero, List.set_cons_succ]
        refine AnyU.loadc (i := 1) (d := 7) [7] (Si := fun w' => w'.cell? ⟨w.heap.size + 1, 5, none⟩ = some (.slice na' b.names.length nc')) (v := ?_) rfl (by kernel_rfl) (by kernel_rfl) (by kernel_rfl) (fun _ _ _ h => h) (by kernel_rfl) (by assumption) (by kernel_rfl) rfl (by simp) (by rfl) ?_ (fun hU => ?_)
        rotate_left 1
        · (intro wq hq; go_simp; try with_reducible rfl)
        simp only [Act.put, List.getElem_toArray, List.getElem_cons_zero, List.getElem_cons_succ, List.setIfInBounds_toArray, List.set_cons_zero, List.set_cons_succ]
        refine AnyU.take (i := 2) (v := ?_) rfl (by kernel_rfl) (by kernel_rfl) (by kernel_rfl) (fun _ _ _ h => h) (by kernel_rfl) (by assumption) (by rfl) ?_ (fun hU => ?_)
        rotate_left 1
        · (intro wq; go_simp; try with_reducible rfl)
        simp only [Act.put, List.getElem_toArray, List.getElem_cons_zero, List.getElem_cons_succ, List.setIfInBounds_toArray, List.set_cons_zero, List.set_cons_succ]
        refine AnyU.loadc (i := 3) (d := 7) [5, 6, 7] (Si := fun w' => w'.cell? ⟨w.heap.size, 5, none⟩ = some (.slice (some ⟨b1, o1, none⟩) a.names.length nc)) (v := ?_) rfl (by kernel_rfl) (by kernel_rfl) (by kernel_rfl) (fun _ _ _ h => h) (by kernel_rfl) (by assumption) (by kernel_rfl) rfl (by simp) (by rfl) ?_ (fun hU => ?_)
        rotate_left 1
        · (intro wq hq; go_simp; try with_reducible rfl)
        simp only [Act.put, List.getElem_toArray, List.getElem_cons_zero, List.getElem_cons_succ, List.setIfInBounds_toArray, List.set_cons_zero, List.set_cons_succ]
        refine AnyU.take (i := 4) (v := ?_) rfl (by kernel_rfl) (by kernel_rfl) (by kernel_rfl) (fun _ _ _ h => h) (by kernel_rfl) (by assumption) (by rfl) ?_ (fun hU => ?_)
        rotate_left 1
        · (intro wq; go_simp; try with_reducible rfl)
        simp only [Act.put, List.getElem_toArray, List.getElem_cons_zero, List.getElem_cons_succ, List.setIfInBounds_toArray, List.set_cons_zero, List.set_cons_succ]
        refine AnyU.take (i := 5) (v := ?_) rfl (by kernel_rfl) (by kernel_rfl) (by kernel_rfl) (fun _ _ _ h => h) (by kernel_rfl) (by assumption) (by rfl) ?_ (fun hU => ?_)
        rotate_left 1
        · (intro wq; go_simp; try with_reducible rfl)
        simp only [Act.put, List.getElem_toArray, List.getElem_cons_zero, List.getElem_cons_succ, List.setIfInBounds_toArray, List.set_cons_zero, List.set_cons_succ]
        refine AnyU.loadc (i := 6) (d := 7) [7] (Si := fun w' => w'.cell? ⟨b1, o1 + k, none⟩ = some (.string a.names[k])) (v := ?_) rfl (by kernel_rfl) (by kernel_rfl) (by kernel_rfl) (fun _ _ _ h => h) (by kernel_rfl) (by assumption) (by kernel_rfl) rfl (by simp) (by rfl) ?_ (fun hU => ?_)
        rotate_left 1
        · (intro wq hq; go_simp; try with_reducible rfl)
        simp only [Act.put, List.getElem_toArray, List.getElem_cons_zero, List.getElem_cons_succ, List.setIfInBounds_toArray, List.set_cons_zero, List.set_cons_succ]
        refine AnyU.ready1 (i := 7) (by kernel_rfl) (AnyU.one rfl fun K hK => ?_)
        go_simp
        go_at_call 37
        refine (refOf_c na' nc' B b.names a.names[k] wr.drew (by have := HRB.out.len; omega) ((HN'.out.keep fun p hp => hacc.cell (p := p) (by omega)).keep fun _ _ => rfl)).mono ?_
        rintro e w5 ⟨rfl, rfl⟩
        refine hK.out _ _ (Until.off (by kernel_rfl)) (fun hU => ?_)
        clear hK K
        try simp only [Act.put, List.getElem_toArray, List.getElem_cons_zero, List.getElem_cons_succ, List.setIfInBounds_toArray, List.set_cons_zero, List.set_cons_succ]
        refine AnyU.take (i := 8) (v := ?_) rfl (by kernel_rfl) (by kernel_rfl) (by kernel_rfl) (fun _ _ _ h => h) (by kernel_rfl) (by assumption) (by rfl) ?_ (fun hU => ?_)
        rotate_left 1
        · (intro wq; go_simp; try with_reducible rfl)
        simp only [Act.put, List.getElem_toArray, List.getElem_cons_zero, List.getElem_cons_succ, List.setIfInBounds_toArray, List.set_cons_zero, List.set_cons_succ]
        refine AnyU.done (by kernel_rfl) ?_
        clear hU
        go_wp2_with fail
        go_meet
        exact ⟨rfl, (Below.refl _ _).drew⟩
      case rest =>
        obtain ⟨rfl, hbc⟩ := hcut
        have HR2 := Lib.hid (HR.out.under hB hbc)
        have hacc2 := HR2.out.below
        have hsz2 := HR2.out.size
        have HCN2 := Lib.hid ((hbc.cell (p := ⟨b1, o1 + k, none⟩) (by simp; omega)).trans HCN.out)
        have a5 := HR2.out.boxa.cell 5
        have a6 := HR2.out.boxa.cell 6
        have b6 := HR2.out.boxb.cell 6
        simp [tyCells] at a5 a6 b6
        have HA5' := Lib.hid a5
        have HA6' := Lib.hid a6
        have HB6' := Lib.hid b6
        clear a5 a6 b6 HA5 HB5 HCN
        cases hmb : memB a.names[k] b.names
        case false =>
          have HMB := Lib.hid hmb
          rw [ofI_miss hmb]
          clear hmb
          cases al
          case false =>
            have hst := Lib.hid (HRS.out.skip (s := a.names[k]) ((gA_miss HRA.out hlt hlt' HMB.out).trans rfl) (take_mem_succ hlt))
            go_wp2_with fail
            first
              | exact ⟨⟨k + 1, _, _, by omega, by go_num, HR2.out, hst.out, all_none, by have := HLN.out; omega⟩, by simp [intOf]; omega⟩
              | (go_roundw
                 case rel => exact ⟨k + 1, _, _, by omega, by go_num, HR2.out, hst.out, all_none, by have := HLN.out; omega⟩
                 case measure => simp [intOf]; omega)
          case true =>
            have hT2 := (HU.out k hlt').under (HR2.out.below.mono hB)
            obtain ⟨b2, o2, na2, nc2, sa2, sc2, rfl, hbb2, hfk2, c0, c1, c2, c3, c4, c5, c6⟩ := TyC.elem (HS.out.keep fun p hp => HR2.out.below.cell (p := p) (by omega)) hlt' hT2
            rw [hfk2] at hT2
            have HT2 := Lib.hid hT2
            have HC2 := Lib.hid (And.intro c0 (And.intro c1 (And.intro c2 (And.intro c3 (And.intro c4 (And.intro c5 c6))))))
            clear hT2 hfk2 c0 c1 c2 c3 c4 c5 c6
            have ob := HR2.out.out
            have o0 := ob.cell 0
            have o1 := ob.cell 1
            have o2 := ob.cell 2
            have o3 := ob.cell 3
            have o4 := ob.cell 4
            have o5 := ob.cell 5
            have o6 := ob.cell 6
            simp at o0 o1 o2 o3 o4 o5 o6
            have HOUT := Lib.hid (And.intro o0 (And.intro o1 (And.intro o2 (And.intro o3 (And.intro o4 (And.intro o5 o6))))))
            clear ob o0 o1 o2 o3 o4 o5 o6
            have hg := gA_miss (r := r) (al := true) HRA.out hlt hlt' HMB.out
            rw [if_pos rfl] at hg
            have HST := Lib.hid (HRS.out.put (take_fresh HRA.out.rise hlt) hg (take_mem_succ hlt))
            have HALL2 := Lib.hid (all_succ hlt HALL.out fun _ => by rw [hg]; rfl)
            clear hg
            go_upto_region 27 with fail
            refine wp_region_until [(11, fun w' => w'.cell? ⟨w.heap.size + 1 + 1 + 1, 0, none⟩ = some (.int .i64 a.kind) ∧ w'.cell? ⟨w.heap.size + 1 + 1 + 1, 1, none⟩ = some (.string { data := #[] }) ∧ w'.cell? ⟨w.heap.size + 1 + 1 + 1, 2, none⟩ = some (.int .i64 0) ∧ w'.cell? ⟨w.heap.size + 1 + 1 + 1, 3, none⟩ = some (.string { data := #[] }) ∧ w'.cell? ⟨w.heap.size + 1 + 1 + 1, 4, none⟩ = some (.string { data := #[] }) ∧ w'.cell? ⟨w.heap.size + 1 + 1 + 1, 5, none⟩ = some (.slice naC L.length ncC) ∧ w'.cell? ⟨w.heap.size + 1 + 1 + 1, 6, none⟩ = some (.slice saC L.length scC)), (11, fun w' => w'.cell? ⟨w.heap.size, 5, none⟩ = some (.slice (some ⟨b1, o1, none⟩) a.names.length nc)), (11, fun w' => w'.cell? ⟨b1, o1 + k, none⟩ = some (.string a.names[k])), (11, fun w' => w'.cell? ⟨w.heap.size, 6, none⟩ = some (.slice (some ⟨b2, o2, none⟩) a.subs.length sc)), (11, fun w' => w'.cell? ⟨b2, o2 + k * 7, none⟩ = some (.int .i64 a.subs[k].kind) ∧ w'.cell? ⟨b2, o2 + k * 7 + 1, none⟩ = some (.string a.subs[k].pkg) ∧ w'.cell? ⟨b2, o2 + k * 7 + 2, none⟩ = some (.int .i64 a.subs[k].major) ∧ w'.cell? ⟨b2, o2 + k * 7 + 3, none⟩ = some (.string a.subs[k].mod) ∧ w'.cell? ⟨b2, o2 + k * 7 + 4, none⟩ = some (.string a.subs[k].name) ∧ w'.cell? ⟨b2, o2 + k * 7 + 5, none⟩ = some (.slice na2 a.subs[k].names.length nc2) ∧ w'.cell? ⟨b2, o2 + k * 7 + 6, none⟩ = some (.slice sa2 a.subs[k].subs.length sc2))] (by kernel_rfl) (Until.cons (fun _ => HOUT.out) (Until.cons (fun _ => HA5'.out) (Until.cons (fun _ => HCN2.out) (Until.cons (fun _ => HA6'.out) (Until.cons (fun _ => HC2.out) Until.nil))))) (fun hU => ?_)
            refine AnyU.loadc (i := 0) (d := 11) [11] (Si := fun w' => w'.cell? ⟨w.heap.size + 1 + 1 + 1, 0, none⟩ = some (.int .i64 a.kind) ∧ w'.cell? ⟨w.heap.size + 1 + 1 + 1, 1, none⟩ = some (.string { data := #[] }) ∧ w'.cell? ⟨w.heap.size + 1 + 1 + 1, 2, none⟩ = some (.int .i64 0) ∧ w'.cell? ⟨w.heap.size + 1 + 1 + 1, 3, none⟩ = some (.string { data := #[] }) ∧ w'.cell? ⟨w.heap.size + 1 + 1 + 1, 4, none⟩ = some (.string { data := #[] }) ∧ w'.cell? ⟨w.heap.size + 1 + 1 + 1, 5, none⟩ = some (.slice naC L.length ncC) ∧ w'.cell? ⟨w.heap.size + 1 + 1 + 1, 6, none⟩ = some (.slice saC L.length scC)) (v := ?_) rfl (by kernel_rfl) (by kernel_rfl) (by kernel_rfl) (fun _ _ _ h => h) (by kernel_rfl) (by assumption) (by kernel_rfl) rfl (by simp) (by rfl) ?_ (fun hU => ?_)
            rotate_left 1
            · (intro wq hq; obtain ⟨u0, u1, u2, u3, u4, u5, u6⟩ := hq; go_simp; try with_reducible rfl)
            simp only [Act.put, List.getElem_toArray, List.getElem_cons_zero, List.getElem_cons_succ, List.setIfInBounds_toArray, List.set_cons_zero, List.set_cons_succ]
            refine AnyU.take (i := 1) (v := ?_) rfl (by kernel_rfl) (by kernel_rfl) (by kernel_rfl) (fun _ _ _ h => h) (by kernel_rfl) (by assumption) (by rfl) ?_ (fun hU => ?_)
            rotate_left 1
            · (intro wq; go_simp; try with_reducible rfl)
            simp only [Act.put, List.getElem_toArray, List.getElem_cons_zero, List.getElem_cons_succ, List.setIfInBounds_toArray, List.set_cons_zero, List.set_cons_succ]
            refine AnyU.loadc (i := 2) (d := 11) [4, 5, 11] (Si := fun w' => w'.cell? ⟨w.heap.size, 5, none⟩ = some (.slice (some ⟨b1, o1, none⟩) a.names.length nc)) (v := ?_) rfl (by kernel_rfl) (by kernel_rfl) (by kernel_rfl) (fun _ _ _ h => h) (by kernel_rfl) (by assumption) (by kernel_rfl) rfl (by simp) (by rfl) ?_ (fun hU => ?_)
            rotate_left 1
            · (intro wq hq; go_simp; try with_reducible rfl)
            simp only [Act.put, List.getElem_toArray, List.getElem_cons_zero, List.getElem_cons_succ, List.setIfInBounds_toArray, List.set_cons_zero, List.set_cons_succ]
            refine AnyU.take (i := 3) (v := ?_) rfl (by kernel_rfl) (by kernel_rfl) (by kernel_rfl) (fun _ _ _ h => h) (by kernel_rfl) (by assumption) (by rfl) ?_ (fun hU => ?_)
            rotate_left 1
            · (intro wq; go_simp; try with_reducible rfl)
            simp only [Act.put, List.getElem_toArray, List.getElem_cons_zero, List.getElem_cons_succ, List.setIfInBounds_toArray, List.set_cons_zero, List.set_cons_succ]
            refine AnyU.take (i := 4) (v := ?_) rfl (by kernel_rfl) (by kernel_rfl) (by kernel_rfl) (fun _ _ _ h => h) (by kernel_rfl) (by assumption) (by rfl) ?_ (fun hU => ?_)
            rotate_left 1
            · (intro wq; go_simp; try with_reducible rfl)
            simp only [Act.put, List.getElem_toArray, List.getElem_cons_zero, List.getElem_cons_succ, List.setIfInBounds_toArray, List.set_cons_zero, List.set_cons_succ]
            refine AnyU.loadc (i := 5) (d := 11) [11] (Si := fun w' => w'.cell? ⟨b1, o1 + k, none⟩ = some (.string a.names[k])) (v := ?_) rfl (by kernel_rfl) (by kernel_rfl) (by kernel_rfl) (fun _ _ _ h => h) (by kernel_rfl) (by assumption) (by kernel_rfl) rfl (by simp) (by rfl) ?_ (fun hU => ?_)
            rotate_left 1
            · (intro wq hq; go_simp; try with_reducible rfl)
            simp only [Act.put, List.getElem_toArray, List.getElem_cons_zero, List.getElem_cons_succ, List.setIfInBounds_toArray, List.set_cons_zero, List.set_cons_succ]
            refine AnyU.take (i := 6) (v := ?_) rfl (by kernel_rfl) (by kernel_rfl) (by kernel_rfl) (fun _ _ _ h => h) (by kernel_rfl) (by assumption) (by rfl) ?_ (fun hU => ?_)
            rotate_left 1
            · (intro wq; go_simp; try with_reducible rfl)
            simp only [Act.put, List.getElem_toArray, List.getElem_cons_zero, List.getElem_cons_succ, List.setIfInBounds_toArray, List.set_cons_zero, List.set_cons_succ]
            refine AnyU.loadc (i := 7) (d := 11) [9, 10, 11] (Si := fun w' => w'.cell? ⟨w.heap.size, 6, none⟩ = some (.slice (some ⟨b2, o2, none⟩) a.subs.length sc)) (v := ?_) rfl (by kernel_rfl) (by kernel_rfl) (by kernel_rfl) (fun _ _ _ h => h) (by kernel_rfl) (by assumption) (by kernel_rfl) rfl (by simp) (by rfl) ?_ (fun hU => ?_)
            rotate_left 1
            · (intro wq hq; go_simp; try with_reducible rfl)
            simp only [Act.put, List.getElem_toArray, List.getElem_cons_zero, List.getElem_cons_succ, List.setIfInBounds_toArray, List.set_cons_zero, List.set_cons_succ]
            refine AnyU.take (i := 8) (v := ?_) rfl (by kernel_rfl) (by kernel_rfl) (by kernel_rfl) (fun _ _ _ h => h) (by kernel_rfl) (by assumption) (by rfl) ?_ (fun hU => ?_)
            rotate_left 1
            · (intro wq; go_simp; try with_reducible rfl)
            simp only [Act.put, List.getElem_toArray, List.getElem_cons_zero, List.getElem_cons_succ, List.setIfInBounds_toArray, List.set_cons_zero, List.set_cons_succ]
            refine AnyU.take (i := 9) (v := ?_) rfl (by kernel_rfl) (by kernel_rfl) (by kernel_rfl) (fun _ _ _ h => h) (by kernel_rfl) (by assumption) (by rfl) ?_ (fun hU => ?_)
            rotate_left 1
            · (intro wq; go_simp; try with_reducible rfl)
            simp only [Act.put, List.getElem_toArray, List.getElem_cons_zero, List.getElem_cons_succ, List.setIfInBounds_toArray, List.set_cons_zero, List.set_cons_succ]
            refine AnyU.loadc (i := 10) (d := 11) [11] (Si := fun w' => w'.cell? ⟨b2, o2 + k * 7, none⟩ = some (.int .i64 a.subs[k].kind) ∧ w'.cell? ⟨b2, o2 + k * 7 + 1, none⟩ = some (.string a.subs[k].pkg) ∧ w'.cell? ⟨b2, o2 + k * 7 + 2, none⟩ = some (.int .i64 a.subs[k].major) ∧ w'.cell? ⟨b2, o2 + k * 7 + 3, none⟩ = some (.string a.subs[k].mod) ∧ w'.cell? ⟨b2, o2 + k * 7 + 4, none⟩ = some (.string a.subs[k].name) ∧ w'.cell? ⟨b2, o2 + k * 7 + 5, none⟩ = some (.slice na2 a.subs[k].names.length nc2) ∧ w'.cell? ⟨b2, o2 + k * 7 + 6, none⟩ = some (.slice sa2 a.subs[k].subs.length sc2)) (v := ?_) rfl (by kernel_rfl) (by kernel_rfl) (by kernel_rfl) (fun _ _ _ h => h) (by kernel_rfl) (by assumption) (by kernel_rfl) rfl (by simp) (by rfl) ?_ (fun hU => ?_)
            rotate_left 1
            · (intro wq hq; obtain ⟨u0, u1, u2, u3, u4, u5, u6⟩ := hq; go_simp; try with_reducible rfl)
            simp only [Act.put, List.getElem_toArray, List.getElem_cons_zero, List.getElem_cons_succ, List.setIfInBounds_toArray, List.set_cons_zero, List.set_cons_succ]
            refine AnyU.ready1 (i := 11) (by kernel_rfl) (AnyU.one rfl fun K hK => ?_)
            go_simp
            go_at_call 40
            refine (HR2.out.putc hB HF.out (by have := HLN.out; omega) (HF.out.each _ (List.getElem_mem hlt)) (HT2.out.toM.mono fun b hb => .inl hb)).mono ?_
            rintro e w5 ⟨na4, nc4, sa4, sc4, rfl, hb5, hr5⟩
            have ob := HR2.out.out.under hb5 HR2.out.out.lt
            have z0 := ob.cell 0
            have zf0 := ob.free 0
            have z1 := ob.cell 1
            have zf1 := ob.free 1
            have z2 := ob.cell 2
            have zf2 := ob.free 2
            have z3 := ob.cell 3
            have zf3 := ob.free 3
            have z4 := ob.cell 4
            have zf4 := ob.free 4
            have z5 := ob.cell 5
            have zf5 := ob.free 5
            have z6 := ob.cell 6
            have zf6 := ob.free 6
            simp at z0 z1 z2 z3 z4 z5 z6
            have HR5 := Lib.hid hr5
            clear ob hr5 hb5
            refine hK.out _ _ (Until.off (by kernel_rfl)) (fun hU => ?_)
            clear hK K
            try simp only [Act.put, List.getElem_toArray, List.getElem_cons_zero, List.getElem_cons_succ, List.setIfInBounds_toArray, List.set_cons_zero, List.set_cons_succ]
            refine AnyU.ready1 (i := 12) (by kernel_rfl) (AnyU.one rfl fun K hK => ?_)
            go_simp
            refine hK.out _ _ (Until.off (by kernel_rfl)) (fun hU => ?_)
            clear hK K
            try simp only [Act.put, List.getElem_toArray, List.getElem_cons_zero, List.getElem_cons_succ, List.setIfInBounds_toArray, List.set_cons_zero, List.set_cons_succ]
            refine AnyU.done (by kernel_rfl) ?_
            have hr6 := HR5.out
            generalize (((((((w5.setCell ⟨w.heap.size + 1 + 1 + 1, 0, none⟩ (.int .i64 a.kind)).setCell ⟨w.heap.size + 1 + 1 + 1, 1, none⟩ (.string { data := #[] })).setCell ⟨w.heap.size + 1 + 1 + 1, 2, none⟩ (.int .i64 0)).setCell ⟨w.heap.size + 1 + 1 + 1, 3, none⟩ (.string { data := #[] })).setCell ⟨w.heap.size + 1 + 1 + 1, 4, none⟩ (.string { data := #[] })).setCell ⟨w.heap.size + 1 + 1 + 1, 5, none⟩ (.slice na4 (putF a.names[k] a.subs[k] L).length nc4)).setCell ⟨w.heap.size + 1 + 1 + 1, 6, none⟩ (.slice sa4 (putF a.names[k] a.subs[k] L).length sc4)) = Wz at hr6 ⊢
            have HR6 := Lib.hid hr6
            clear hU hr6 HR5 z0 z1 z2 z3 z4 z5 z6 zf0 zf1 zf2 zf3 zf4 zf5 zf6
            go_wp2_with fail
            first
              | exact ⟨⟨k + 1, _, _, by omega, by go_num, HR6.out, HST.out, HALL2.out, putF_two HLN.out⟩, by simp [intOf]; omega⟩
              | (go_roundw
                 case rel => exact ⟨k + 1, _, _, by omega, by go_num, HR6.out, HST.out, HALL2.out, putF_two HLN.out⟩
                 case measure => simp [intOf]; omega)
        case true =>
          have HMB := Lib.hid hmb
          rw [ofI_hit hmb]
          have hj' : firstOf b.names a.names[k] < b.names.length := firstOf_lt hmb
          generalize hj : firstOf b.names a.names[k] = j at hj' ⊢
          have HJ := Lib.hid hj
          have hjs : j < b.subs.length := by have := HNB.out; omega
          have hj20 : j < 20 := by omega
          have HG := Lib.hid (gA_hit (r := r) (al := al) HRA.out HRB.out hlt hlt' hmb hj hjs)
          clear hmb hj
          have hT2 := (HU.out k hlt').under (HR2.out.below.mono hB)
          obtain ⟨b2, o2, na2, nc2, sa2, sc2, rfl, hbb2, hfk2, c0, c1, c2, c3, c4, c5, c6⟩ := TyC.elem (HS.out.keep fun p hp => HR2.out.below.cell (p := p) (by omega)) hlt' hT2
          rw [hfk2] at hT2
          have HT2 := Lib.hid hT2
          have HC2 := Lib.hid (And.intro c0 (And.intro c1 (And.intro c2 (And.intro c3 (And.intro c4 (And.intro c5 c6))))))
          clear hT2 hfk2 c0 c1 c2 c3 c4 c5 c6
          have hT3 := (HU'.out j hjs).under (HR2.out.below.mono hB)
          obtain ⟨b3, o3, na3, nc3, sa3, sc3, rfl, hbb3, hfk3, c0, c1, c2, c3, c4, c5, c6⟩ := TyC.elem (HS'.out.keep fun p hp => HR2.out.below.cell (p := p) (by omega)) hjs hT3
          rw [hfk3] at hT3
          have HT3 := Lib.hid hT3
          have HC3 := Lib.hid (And.intro c0 (And.intro c1 (And.intro c2 (And.intro c3 (And.intro c4 (And.intro c5 c6))))))
          clear hT3 hfk3 c0 c1 c2 c3 c4 c5 c6
          have hjI : ¬ ((j : Int) < 0) := by omega
          have hjJ : (j : Int) < (b.subs.length : Int) := by omega
          have hw2 : B ≤ wc.heap.size := by omega
          go_upto_region 28 with fail
          go_cut [16, 17] (fun s16 s17 wx => ∃ (tb : Nat) (t : Ty) (na6 : Option Addr) (nc6 : Nat) (sa6 : Option Addr) (sc6 : Nat), s16 = .pointer (some ⟨tb, 0, none⟩) ∧ s17 = .bool (r a.subs[k] b.subs[j]).isSome ∧ CutRel wc wx B t (tyCells t na6 nc6 sa6 sc6) tb ∧ (∀ x, r a.subs[k] b.subs[j] = some x → t = x))
          case first =>
            refine wp_region_until [(11, fun w' => w'.cell? ⟨w.heap.size, 6, none⟩ = some (.slice (some ⟨b2, o2, none⟩) a.subs.length sc)), (11, fun w' => w'.cell? ⟨w.heap.size + 1, 6, none⟩ = some (.slice (some ⟨b3, o3, none⟩) b.subs.length sc')), (11, fun w' => w'.cell? ⟨b2, o2 + k * 7, none⟩ = some (.int .i64 a.subs[k].kind) ∧ w'.cell? ⟨b2, o2 + k * 7 + 1, none⟩ = some (.string a.subs[k].pkg) ∧ w'.cell? ⟨b2, o2 + k * 7 + 2, none⟩ = some (.int .i64 a.subs[k].major) ∧ w'.cell? ⟨b2, o2 + k * 7 + 3, none⟩ = some (.string a.subs[k].mod) ∧ w'.cell? ⟨b2, o2 + k * 7 + 4, none⟩ = some (.string a.subs[k].name) ∧ w'.cell? ⟨b2, o2 + k * 7 + 5, none⟩ = some (.slice na2 a.subs[k].names.length nc2) ∧ w'.cell? ⟨b2, o2 + k * 7 + 6, none⟩ = some (.slice sa2 a.subs[k].subs.length sc2)), (11, fun w' => w'.cell? ⟨b3, o3 + j * 7, none⟩ = some (.int .i64 b.subs[j].kind) ∧ w'.cell? ⟨b3, o3 + j * 7 + 1, none⟩ = some (.string b.subs[j].pkg) ∧ w'.cell? ⟨b3, o3 + j * 7 + 2, none⟩ = some (.int .i64 b.subs[j].major) ∧ w'.cell? ⟨b3, o3 + j * 7 + 3, none⟩ = some (.string b.subs[j].mod) ∧ w'.cell? ⟨b3, o3 + j * 7 + 4, none⟩ = some (.string b.subs[j].name) ∧ w'.cell? ⟨b3, o3 + j * 7 + 5, none⟩ = some (.slice na3 b.subs[j].names.length nc3) ∧ w'.cell? ⟨b3, o3 + j * 7 + 6, none⟩ = some (.slice sa3 b.subs[j].subs.length sc3))] (by kernel_rfl) (Until.cons (fun _ => HA6'.out) (Until.cons (fun _ => HB6'.out) (Until.cons (fun _ => HC2.out) (Until.cons (fun _ => HC3.out) Until.nil)))) (fun hU => ?_)
            refine AnyU.take (i := 0) (v := ?_) rfl (by kernel_rfl) (by kernel_rfl) (by kernel_rfl) (fun _ _ _ h => h) (by kernel_rfl) (by assumption) (by rfl) ?_ (fun hU => ?_)
            rotate_left 1
            · (intro wq; go_simp; try with_reducible rfl)
            simp only [Act.put, List.getElem_toArray, List.getElem_cons_zero, List.getElem_cons_succ, List.setIfInBounds_toArray, List.set_cons_zero, List.set_cons_succ]
            refine AnyU.loadc (i := 1) (d := 11) [3, 4, 11] (Si := fun w' => w'.cell? ⟨w.heap.size, 6, none⟩ = some (.slice (some ⟨b2, o2, none⟩) a.subs.length sc)) (v := ?_) rfl (by kernel_rfl) (by kernel_rfl) (by kernel_rfl) (fun _ _ _ h => h) (by kernel_rfl) (by assumption) (by kernel_rfl) rfl (by simp) (by rfl) ?_ (fun hU => ?_)
            rotate_left 1
            · (intro wq hq; go_simp; try with_reducible rfl)
            simp only [Act.put, List.getElem_toArray, List.getElem_cons_zero, List.getElem_cons_succ, List.setIfInBounds_toArray, List.set_cons_zero, List.set_cons_succ]
            refine AnyU.take (i := 2) (v := ?_) rfl (by kernel_rfl) (by kernel_rfl) (by kernel_rfl) (fun _ _ _ h => h) (by kernel_rfl) (by assumption) (by rfl) ?_ (fun hU => ?_)
            rotate_left 1
            · (intro wq; go_simp; try with_reducible rfl)
            simp only [Act.put, List.getElem_toArray, List.getElem_cons_zero, List.getElem_cons_succ, List.setIfInBounds_toArray, List.set_cons_zero, List.set_cons_succ]
            refine AnyU.take (i := 3) (v := ?_) rfl (by kernel_rfl) (by kernel_rfl) (by kernel_rfl) (fun _ _ _ h => h) (by kernel_rfl) (by assumption) (by rfl) ?_ (fun hU => ?_)
            rotate_left 1
            · (intro wq; go_simp; try with_reducible rfl)
            simp only [Act.put, List.getElem_toArray, List.getElem_cons_zero, List.getElem_cons_succ, List.setIfInBounds_toArray, List.set_cons_zero, List.set_cons_succ]
            refine AnyU.loadc (i := 4) (d := 11) [11] (Si := fun w' => w'.cell? ⟨b2, o2 + k * 7, none⟩ = some (.int .i64 a.subs[k].kind) ∧ w'.cell? ⟨b2, o2 + k * 7 + 1, none⟩ = some (.string a.subs[k].pkg) ∧ w'.cell? ⟨b2, o2 + k * 7 + 2, none⟩ = some (.int .i64 a.subs[k].major) ∧ w'.cell? ⟨b2, o2 + k * 7 + 3, none⟩ = some (.string a.subs[k].mod) ∧ w'.cell? ⟨b2, o2 + k * 7 + 4, none⟩ = some (.string a.subs[k].name) ∧ w'.cell? ⟨b2, o2 + k * 7 + 5, none⟩ = some (.slice na2 a.subs[k].names.length nc2) ∧ w'.cell? ⟨b2, o2 + k * 7 + 6, none⟩ = some (.slice sa2 a.subs[k].subs.length sc2)) (v := ?_) rfl (by kernel_rfl) (by kernel_rfl) (by kernel_rfl) (fun _ _ _ h => h) (by kernel_rfl) (by assumption) (by kernel_rfl) rfl (by simp) (by rfl) ?_ (fun hU => ?_)
            rotate_left 1
            · (intro wq hq; obtain ⟨u0, u1, u2, u3, u4, u5, u6⟩ := hq; go_simp; try with_reducible rfl)
            simp only [Act.put, List.getElem_toArray, List.getElem_cons_zero, List.getElem_cons_succ, List.setIfInBounds_toArray, List.set_cons_zero, List.set_cons_succ]
            refine AnyU.take (i := 5) (v := ?_) rfl (by kernel_rfl) (by kernel_rfl) (by kernel_rfl) (fun _ _ _ h => h) (by kernel_rfl) (by assumption) (by rfl) ?_ (fun hU => ?_)
            rotate_left 1
            · (intro wq; go_simp; try with_reducible rfl)
            simp only [Act.put, List.getElem_toArray, List.getElem_cons_zero, List.getElem_cons_succ, List.setIfInBounds_toArray, List.set_cons_zero, List.set_cons_succ]
            refine AnyU.loadc (i := 6) (d := 11) [8, 9, 11] (Si := fun w' => w'.cell? ⟨w.heap.size + 1, 6, none⟩ = some (.slice (some ⟨b3, o3, none⟩) b.subs.length sc')) (v := ?_) rfl (by kernel_rfl) (by kernel_rfl) (by kernel_rfl) (fun _ _ _ h => h) (by kernel_rfl) (by assumption) (by kernel_rfl) rfl (by simp) (by rfl) ?_ (fun hU => ?_)
            rotate_left 1
            · (intro wq hq; go_simp; try with_reducible rfl)
            simp only [Act.put, List.getElem_toArray, List.getElem_cons_zero, List.getElem_cons_succ, List.setIfInBounds_toArray, List.set_cons_zero, List.set_cons_succ]
            refine AnyU.take (i := 7) (v := ?_) rfl (by kernel_rfl) (by kernel_rfl) (by kernel_rfl) (fun _ _ _ h => h) (by kernel_rfl) (by assumption) (by rfl) ?_ (fun hU => ?_)
            rotate_left 1
            · (intro wq; go_simp; try with_reducible rfl)
            simp only [Act.put, List.getElem_toArray, List.getElem_cons_zero, List.getElem_cons_succ, List.setIfInBounds_toArray, List.set_cons_zero, List.set_cons_succ]
            refine AnyU.take (i := 8) (v := ?_) rfl (by kernel_rfl) (by kernel_rfl) (by kernel_rfl) (fun _ _ _ h => h) (by kernel_rfl) (by assumption) (by rfl) ?_ (fun hU => ?_)
            rotate_left 1
            · (intro wq; go_simp; try with_reducible rfl)
            simp only [Act.put, List.getElem_toArray, List.getElem_cons_zero, List.getElem_cons_succ, List.setIfInBounds_toArray, List.set_cons_zero, List.set_cons_succ]
            refine AnyU.loadc (i := 9) (d := 11) [11] (Si := fun w' => w'.cell? ⟨b3, o3 + j * 7, none⟩ = some (.int .i64 b.subs[j].kind) ∧ w'.cell? ⟨b3, o3 + j * 7 + 1, none⟩ = some (.string b.subs[j].pkg) ∧ w'.cell? ⟨b3, o3 + j * 7 + 2, none⟩ = some (.int .i64 b.subs[j].major) ∧ w'.cell? ⟨b3, o3 + j * 7 + 3, none⟩ = some (.string b.subs[j].mod) ∧ w'.cell? ⟨b3, o3 + j * 7 + 4, none⟩ = some (.string b.subs[j].name) ∧ w'.cell? ⟨b3, o3 + j * 7 + 5, none⟩ = some (.slice na3 b.subs[j].names.length nc3) ∧ w'.cell? ⟨b3, o3 + j * 7 + 6, none⟩ = some (.slice sa3 b.subs[j].subs.length sc3)) (v := ?_) rfl (by kernel_rfl) (by kernel_rfl) (by kernel_rfl) (fun _ _ _ h => h) (by kernel_rfl) (by assumption) (by kernel_rfl) rfl (by simp) (by rfl) ?_ (fun hU => ?_)
            rotate_left 1
            · (intro wq hq; obtain ⟨u0, u1, u2, u3, u4, u5, u6⟩ := hq; go_simp; try with_reducible rfl)
            simp only [Act.put, List.getElem_toArray, List.getElem_cons_zero, List.getElem_cons_succ, List.setIfInBounds_toArray, List.set_cons_zero, List.set_cons_succ]
            refine AnyU.take (i := 10) (v := ?_) rfl (by kernel_rfl) (by kernel_rfl) (by kernel_rfl) (fun _ _ _ h => h) (by kernel_rfl) (by assumption) (by rfl) ?_ (fun hU => ?_)
            rotate_left 1
            · (intro wq; go_simp; try with_reducible rfl)
            simp only [Act.put, List.getElem_toArray, List.getElem_cons_zero, List.getElem_cons_succ, List.setIfInBounds_toArray, List.set_cons_zero, List.set_cons_succ]
            refine AnyU.ready2 (i := 11) (j := 15) (by kernel_rfl) (AnyU.one rfl fun K hK => ?_) (AnyU.one rfl fun K hK => ?_)
            · go_simp
              go_at_call 21
              refine (HI.out a.subs[k] b.subs[j] (List.getElem_mem hlt') (List.getElem_mem hjs) _ _ B wc.drew (HT2.out.keep fun _ _ => rfl) (HT3.out.keep fun _ _ => rfl) hw2).mono ?_
              rintro e w3 ⟨⟨t, cr, rfl, hrt, htm⟩, hb3⟩
              obtain ⟨na6, nc6, sa6, sc6, f6, rfl, -⟩ := htm.inv
              simp only [tyCells]
              have HAW := Lib.hid (show Below wc.heap.size wc w3 from (Below.refl _ _).drew.trans hb3)
              have HTM := Lib.hid htm
              have HRT := Lib.hid hrt
              clear htm hb3 hrt
              refine hK.out _ _ (Until.off (by kernel_rfl)) (fun hU => ?_)
              clear hK K
              try simp only [Act.put, List.getElem_toArray, List.getElem_cons_zero, List.getElem_cons_succ, List.setIfInBounds_toArray, List.set_cons_zero, List.set_cons_succ]
              refine AnyU.take (i := 12) (v := ?_) rfl (by kernel_rfl) (by kernel_rfl) (by kernel_rfl) (fun _ _ _ h => h) (by kernel_rfl) (by assumption) (by rfl) ?_ (fun hU => ?_)
              rotate_left 1
              · (intro wq; go_simp; try with_reducible rfl)
              simp only [Act.put, List.getElem_toArray, List.getElem_cons_zero, List.getElem_cons_succ, List.setIfInBounds_toArray, List.set_cons_zero, List.set_cons_succ]
              refine AnyU.take (i := 13) (v := ?_) rfl (by kernel_rfl) (by kernel_rfl) (by kernel_rfl) (fun _ _ _ h => h) (by kernel_rfl) (by assumption) (by rfl) ?_ (fun hU => ?_)
              rotate_left 1
              · (intro wq; go_simp; try with_reducible rfl)
              simp only [Act.put, List.getElem_toArray, List.getElem_cons_zero, List.getElem_cons_succ, List.setIfInBounds_toArray, List.set_cons_zero, List.set_cons_succ]
              refine AnyU.take (i := 14) (v := ?_) rfl (by kernel_rfl) (by kernel_rfl) (by kernel_rfl) (fun _ _ _ h => h) (by kernel_rfl) (by assumption) (by rfl) ?_ (fun hU => ?_)
              rotate_left 1
              · (intro wq; go_simp; try with_reducible rfl)
              simp only [Act.put, List.getElem_toArray, List.getElem_cons_zero, List.getElem_cons_succ, List.setIfInBounds_toArray, List.set_cons_zero, List.set_cons_succ]
              refine AnyU.ready1 (i := 15) (by kernel_rfl) (AnyU.one rfl fun K hK => ?_)
              go_simp
              refine hK.out _ _ (Until.off (by kernel_rfl)) (fun hU => ?_)
              clear hK K
              try simp only [Act.put, List.getElem_toArray, List.getElem_cons_zero, List.getElem_cons_succ, List.setIfInBounds_toArray, List.set_cons_zero, List.set_cons_succ]
              refine AnyU.ready1 (i := 16) (by kernel_rfl) (AnyU.one rfl fun K hK => ?_)
              go_simp
              refine hK.out _ _ (Until.off (by kernel_rfl)) (fun hU => ?_)
              clear hK K
              try simp only [Act.put, List.getElem_toArray, List.getElem_cons_zero, List.getElem_cons_succ, List.setIfInBounds_toArray, List.set_cons_zero, List.set_cons_succ]
              refine AnyU.take (i := 17) (v := ?_) rfl (by kernel_rfl) (by kernel_rfl) (by kernel_rfl) (fun _ _ _ h => h) (by kernel_rfl) (by assumption) (by rfl) ?_ (fun hU => ?_)
              rotate_left 1
              · (intro wq; go_simp; try with_reducible rfl)
              simp only [Act.put, List.getElem_toArray, List.getElem_cons_zero, List.getElem_cons_succ, List.setIfInBounds_toArray, List.set_cons_zero, List.set_cons_succ]
              refine AnyU.done (by kernel_rfl) ?_
              have hq := CutRel.one (W2 := wc) (X := wc.drew) hw2 (Below.refl _ _) HAW.out (Nat.le_refl _) HTM.out
              simp only [tyCells] at hq
              generalize (w3.alloc (.cells #[.int .i64 t.kind, .string t.pkg, .int .i64 t.major, .string t.mod, .string t.name, .slice na6 t.names.length nc6, .slice sa6 t.subs.length sc6] 25)) = Wz at hq ⊢
              have HQ := Lib.hid hq
              clear hq hU
              go_wp2_with fail
              go_meet
              exact ⟨_, _, _, _, _, _, rfl, rfl, HQ.out, HRT.out⟩
            · go_simp
              have hX2 : wc.heap.size + 1 ≤ (wc.alloc (.cells #[.int .i64 0, .string { data := #[] }, .int .i64 0, .string { data := #[] }, .string { data := #[] }, .slice none 0 0, .slice none 0 0] 25)).drew.heap.size := by
                show wc.heap.size + 1 ≤ (wc.alloc _).heap.size
                simp
              have hbA := ((Below.refl wc.heap.size wc).alloc (Nat.le_refl _) (.cells #[.int .i64 0, .string { data := #[] }, .int .i64 0, .string { data := #[] }, .string { data := #[] }, .slice none 0 0, .slice none 0 0] 25)).drew
              refine hK.out _ _ (Until.cons (fun _ => (hbA.cell (by simp; omega)).trans HA6'.out) (Until.cons (fun _ => (hbA.cell (by simp; omega)).trans HB6'.out) (Until.cons (fun _ => keep7 hbA (by omega) HC2.out) (Until.cons (fun _ => keep7 hbA (by omega) HC3.out) Until.nil)))) (fun hU => ?_)
              clear hK K
              try simp only [Act.put, List.getElem_toArray, List.getElem_cons_zero, List.getElem_cons_succ, List.setIfInBounds_toArray, List.set_cons_zero, List.set_cons_succ]
              refine AnyU.ready1 (i := 11) (by kernel_rfl) (AnyU.one rfl fun K hK => ?_)
              go_simp
              go_at_call 21
              refine (HI.out a.subs[k] b.subs[j] (List.getElem_mem hlt') (List.getElem_mem hjs) _ _ B (wc.alloc (.cells #[.int .i64 0, .string { data := #[] }, .int .i64 0, .string { data := #[] }, .string { data := #[] }, .slice none 0 0, .slice none 0 0] 25)).drew ((HT2.out.alloc hw2 _).keep fun _ _ => rfl) ((HT3.out.alloc hw2 _).keep fun _ _ => rfl) (by show B ≤ (wc.alloc _).heap.size; simp; omega)).mono ?_
              rintro e w3 ⟨⟨t, cr, rfl, hrt, htm⟩, hb3⟩
              obtain ⟨na6, nc6, sa6, sc6, f6, rfl, -⟩ := htm.inv
              simp only [tyCells]
              have zb : Blk w3 wc.heap.size #[.int .i64 0, .string { data := #[] }, .int .i64 0, .string { data := #[] }, .string { data := #[] }, .slice none 0 0, .slice none 0 0] 25 := (Blk.new wc #[.int .i64 0, .string { data := #[] }, .int .i64 0, .string { data := #[] }, .string { data := #[] }, .slice none 0 0, .slice none 0 0] 25).drew.under hb3 (by show wc.heap.size < (wc.alloc _).heap.size; simp)
              have HAW := Lib.hid (show Below wc.heap.size wc w3 from ((Below.refl wc.heap.size wc).alloc (Nat.le_refl _) _).drew.trans (hb3.mono (by show wc.heap.size ≤ (wc.alloc _).heap.size; simp)))
              have z0 := zb.cell 0
              have zf0 := zb.free 0
              have z1 := zb.cell 1
              have zf1 := zb.free 1
              have z2 := zb.cell 2
              have zf2 := zb.free 2
              have z3 := zb.cell 3
              have zf3 := zb.free 3
              have z4 := zb.cell 4
              have zf4 := zb.free 4
              have z5 := zb.cell 5
              have zf5 := zb.free 5
              have z6 := zb.cell 6
              have zf6 := zb.free 6
              simp at z0 z1 z2 z3 z4 z5 z6
              have HZB := Lib.hid zb
              have HTM := Lib.hid htm
              have HRT := Lib.hid hrt
              clear htm hb3 hrt zb
              refine hK.out _ _ (Until.off (by kernel_rfl)) (fun hU => ?_)
              clear hK K
              try simp only [Act.put, List.getElem_toArray, List.getElem_cons_zero, List.getElem_cons_succ, List.setIfInBounds_toArray, List.set_cons_zero, List.set_cons_succ]
              refine AnyU.take (i := 12) (v := ?_) rfl (by kernel_rfl) (by kernel_rfl) (by kernel_rfl) (fun _ _ _ h => h) (by kernel_rfl) (by assumption) (by rfl) ?_ (fun hU => ?_)
              rotate_left 1
              · (intro wq; go_simp; try with_reducible rfl)
              simp only [Act.put, List.getElem_toArray, List.getElem_cons_zero, List.getElem_cons_succ, List.setIfInBounds_toArray, List.set_cons_zero, List.set_cons_succ]
              refine AnyU.take (i := 13) (v := ?_) rfl (by kernel_rfl) (by kernel_rfl) (by kernel_rfl) (fun _ _ _ h => h) (by kernel_rfl) (by assumption) (by rfl) ?_ (fun hU => ?_)
              rotate_left 1
              · (intro wq; go_simp; try with_reducible rfl)
              simp only [Act.put, List.getElem_toArray, List.getElem_cons_zero, List.getElem_cons_succ, List.setIfInBounds_toArray, List.set_cons_zero, List.set_cons_succ]
              refine AnyU.take (i := 14) (v := ?_) rfl (by kernel_rfl) (by kernel_rfl) (by kernel_rfl) (fun _ _ _ h => h) (by kernel_rfl) (by assumption) (by rfl) ?_ (fun hU => ?_)
              rotate_left 1
              · (intro wq; go_simp; try with_reducible rfl)
              simp only [Act.put, List.getElem_toArray, List.getElem_cons_zero, List.getElem_cons_succ, List.setIfInBounds_toArray, List.set_cons_zero, List.set_cons_succ]
              refine AnyU.ready1 (i := 16) (by kernel_rfl) (AnyU.one rfl fun K hK => ?_)
              go_simp
              refine hK.out _ _ (Until.off (by kernel_rfl)) (fun hU => ?_)
              clear hK K
              try simp only [Act.put, List.getElem_toArray, List.getElem_cons_zero, List.getElem_cons_succ, List.setIfInBounds_toArray, List.set_cons_zero, List.set_cons_succ]
              refine AnyU.take (i := 17) (v := ?_) rfl (by kernel_rfl) (by kernel_rfl) (by kernel_rfl) (fun _ _ _ h => h) (by kernel_rfl) (by assumption) (by rfl) ?_ (fun hU => ?_)
              rotate_left 1
              · (intro wq; go_simp; try with_reducible rfl)
              simp only [Act.put, List.getElem_toArray, List.getElem_cons_zero, List.getElem_cons_succ, List.setIfInBounds_toArray, List.set_cons_zero, List.set_cons_succ]
              refine AnyU.done (by kernel_rfl) ?_
              have hq := CutRel.two (W2 := wc) (X := (wc.alloc (.cells #[.int .i64 0, .string { data := #[] }, .int .i64 0, .string { data := #[] }, .string { data := #[] }, .slice none 0 0, .slice none 0 0] 25)).drew) hw2 (Below.refl _ _) HAW.out hX2 HZB.out HTM.out
              generalize (((((((((((((w3.setCell ⟨wc.heap.size, 0, none⟩ (.int .i64 t.kind))).setCell ⟨wc.heap.size, 1, none⟩ (.string t.pkg))).setCell ⟨wc.heap.size, 2, none⟩ (.int .i64 t.major))).setCell ⟨wc.heap.size, 3, none⟩ (.string t.mod))).setCell ⟨wc.heap.size, 4, none⟩ (.string t.name))).setCell ⟨wc.heap.size, 5, none⟩ (.slice na6 t.names.length nc6))).setCell ⟨wc.heap.size, 6, none⟩ (.slice sa6 t.subs.length sc6)) = Wz at hq ⊢
              have HQ := Lib.hid hq
              clear hq hU z0 z1 z2 z3 z4 z5 z6 zf0 zf1 zf2 zf3 zf4 zf5 zf6
              go_wp2_with fail
              go_meet
              exact ⟨_, _, _, _, _, _, rfl, rfl, HQ.out, HRT.out⟩
          case rest =>
            rename World => wd
            obtain ⟨tb, t, na6, nc6, sa6, sc6, rfl, rfl, hc, hrt⟩ := hcut
            have HC := Lib.hid hc
            have HRD := Lib.hid (HR2.out.under hB hc.below)
            have haccd := HRD.out.below
            have hszd := HRD.out.size
            cases hr : r a.subs[k] b.subs[j]
            case none =>
              clear hc hrt
              simp only [Option.isSome_none]
              have HG2 := Lib.hid (HG.out.trans hr)
              clear hr
              cases al
              case false =>
                have hst := Lib.hid (HRS.out.skip (s := a.names[k]) HG2.out (take_mem_succ hlt))
                go_wp2_with fail
                first
                  | exact ⟨⟨k + 1, _, _, by omega, by go_num, HRD.out, hst.out, all_none, by have := HLN.out; omega⟩, by simp [intOf]; omega⟩
                  | (go_roundw
                     case rel => exact ⟨k + 1, _, _, by omega, by go_num, HRD.out, hst.out, all_none, by have := HLN.out; omega⟩
                     case measure => simp [intOf]; omega)
              case true =>
                have hp : rowsR r a b true = none := rowsR_none (List.getElem_mem hlt) HMB.out HG2.out
                have HP := Lib.hid hp
                clear hp
                have hrs := HRD.out.res
                have z0 := hrs.cell 0
                have f0 := hrs.free 0
                have z1 := hrs.cell 1
                have f1 := hrs.free 1
                have z2 := hrs.cell 2
                have f2 := hrs.free 2
                have z3 := hrs.cell 3
                have f3 := hrs.free 3
                have z4 := hrs.cell 4
                have f4 := hrs.free 4
                have z5 := hrs.cell 5
                have f5 := hrs.free 5
                have z6 := hrs.cell 6
                have f6 := hrs.free 6
                simp at z0 z1 z2 z3 z4 z5 z6
                clear hrs
                go_wp2_with fail
                have hblk := put7_full (.int .i64 0) (.string { data := #[] }) (.int .i64 0) (.string { data := #[] }) (.string { data := #[] }) (.slice none 0 0) (.slice none 0 0) HRD.out.res
                have hbl := put7_bel (.int .i64 0) (.string { data := #[] }) (.int .i64 0) (.string { data := #[] }) (.string { data := #[] }) (.slice none 0 0) (.slice none 0 0) HRD.out.below (show w.heap.size ≤ w.heap.size + 1 + 1 by omega)
                generalize (((((((wd.setCell ⟨w.heap.size + 1 + 1, 0, none⟩ (.int .i64 0)).setCell ⟨w.heap.size + 1 + 1, 1, none⟩ (.string { data := #[] })).setCell ⟨w.heap.size + 1 + 1, 2, none⟩ (.int .i64 0)).setCell ⟨w.heap.size + 1 + 1, 3, none⟩ (.string { data := #[] })).setCell ⟨w.heap.size + 1 + 1, 4, none⟩ (.string { data := #[] })).setCell ⟨w.heap.size + 1 + 1, 5, none⟩ (.slice none 0 0)).setCell ⟨w.heap.size + 1 + 1, 6, none⟩ (.slice none 0 0)) = Wz at hblk hbl ⊢
                have p0 := hblk.cell 0
                have p1 := hblk.cell 1
                have p2 := hblk.cell 2
                have p3 := hblk.cell 3
                have p4 := hblk.cell 4
                have p5 := hblk.cell 5
                have p6 := hblk.cell 6
                simp at p0 p1 p2 p3 p4 p5 p6
                refine bodyPost_ret (by simp [results, Try.results21, go_sem, p0, p1, p2, p3, p4, p5, p6]; try rfl) rfl ?_
                exact ⟨⟨zeroTy, _, (by rw [HP.out]; rfl), fun x h => (by rw [HP.out] at h; cases h), (zero_tyc _ B).toM.mono fun b hb => Or.inl hb⟩, hbl⟩
            case some t2 =>
              obtain rfl := hrt _ hr
              have HG2 := Lib.hid (HG.out.trans hr)
              have HST := Lib.hid (HRS.out.put (take_fresh HRA.out.rise hlt) HG2.out (take_mem_succ hlt))
              have HALL2 := Lib.hid (all_succ hlt HALL.out fun _ => by rw [HG2.out]; rfl)
              have HX := Lib.hid (show TyM wd (fun b => b < B ∨ (w.heap.size + 4 ≤ b ∧ b < wd.heap.size)) t (tyCells t na6 nc6 sa6 sc6) from hc.ty.mono fun b hb => hb.imp id fun h => ⟨Nat.le_trans hsz2 h.1, h.2⟩)
              have htb := hc.blk
              have t0 := htb.cell 0
              have t1 := htb.cell 1
              have t2 := htb.cell 2
              have t3 := htb.cell 3
              have t4 := htb.cell 4
              have t5 := htb.cell 5
              have t6 := htb.cell 6
              simp [tyCells] at t0 t1 t2 t3 t4 t5 t6
              have HTB := Lib.hid (And.intro t0 (And.intro t1 (And.intro t2 (And.intro t3 (And.intro t4 (And.intro t5 t6))))))
              have HCN3 := Lib.hid ((hc.below.cell (p := ⟨b1, o1 + k, none⟩) (by simp; omega)).trans HCN2.out)
              have a5 := HRD.out.boxa.cell 5
              simp [tyCells] at a5
              have HA5d := Lib.hid a5
              clear hc hrt hr htb a5 t0 t1 t2 t3 t4 t5 t6
              have ob := HRD.out.out
              have o0 := ob.cell 0
              have o1 := ob.cell 1
              have o2 := ob.cell 2
              have o3 := ob.cell 3
              have o4 := ob.cell 4
              have o5 := ob.cell 5
              have o6 := ob.cell 6
              simp at o0 o1 o2 o3 o4 o5 o6
              have HOUT := Lib.hid (And.intro o0 (And.intro o1 (And.intro o2 (And.intro o3 (And.intro o4 (And.intro o5 o6))))))
              clear ob o0 o1 o2 o3 o4 o5 o6
              simp only [Option.isSome_some]
              go_upto_region 32 with fail
              refine wp_region_until [(7, fun w' => w'.cell? ⟨w.heap.size + 1 + 1 + 1, 0, none⟩ = some (.int .i64 a.kind) ∧ w'.cell? ⟨w.heap.size + 1 + 1 + 1, 1, none⟩ = some (.string { data := #[] }) ∧ w'.cell? ⟨w.heap.size + 1 + 1 + 1, 2, none⟩ = some (.int .i64 0) ∧ w'.cell? ⟨w.heap.size + 1 + 1 + 1, 3, none⟩ = some (.string { data := #[] }) ∧ w'.cell? ⟨w.heap.size + 1 + 1 + 1, 4, none⟩ = some (.string { data := #[] }) ∧ w'.cell? ⟨w.heap.size + 1 + 1 + 1, 5, none⟩ = some (.slice naC L.length ncC) ∧ w'.cell? ⟨w.heap.size + 1 + 1 + 1, 6, none⟩ = some (.slice saC L.length scC)), (7, fun w' => w'.cell? ⟨w.heap.size, 5, none⟩ = some (.slice (some ⟨b1, o1, none⟩) a.names.length nc)), (7, fun w' => w'.cell? ⟨b1, o1 + k, none⟩ = some (.string a.names[k])), (7, fun w' => w'.cell? ⟨tb, 0, none⟩ = some (.int .i64 t.kind) ∧ w'.cell? ⟨tb, 1, none⟩ = some (.string t.pkg) ∧ w'.cell? ⟨tb, 2, none⟩ = some (.int .i64 t.major) ∧ w'.cell? ⟨tb, 3, none⟩ = some (.string t.mod) ∧ w'.cell? ⟨tb, 4, none⟩ = some (.string t.name) ∧ w'.cell? ⟨tb, 5, none⟩ = some (.slice na6 t.names.length nc6) ∧ w'.cell? ⟨tb, 6, none⟩ = some (.slice sa6 t.subs.length sc6))] (by kernel_rfl) (Until.cons (fun _ => HOUT.out) (Until.cons (fun _ => HA5d.out) (Until.cons (fun _ => HCN3.out) (Until.cons (fun _ => HTB.out) Until.nil)))) (fun hU => ?_)
              refine AnyU.loadc (i := 0) (d := 7) [7] (Si := fun w' => w'.cell? ⟨w.heap.size + 1 + 1 + 1, 0, none⟩ = some (.int .i64 a.kind) ∧ w'.cell? ⟨w.heap.size + 1 + 1 + 1, 1, none⟩ = some (.string { data := #[] }) ∧ w'.cell? ⟨w.heap.size + 1 + 1 + 1, 2, none⟩ = some (.int .i64 0) ∧ w'.cell? ⟨w.heap.size + 1 + 1 + 1, 3, none⟩ = some (.string { data := #[] }) ∧ w'.cell? ⟨w.heap.size + 1 + 1 + 1, 4, none⟩ = some (.string { data := #[] }) ∧ w'.cell? ⟨w.heap.size + 1 + 1 + 1, 5, none⟩ = some (.slice naC L.length ncC) ∧ w'.cell? ⟨w.heap.size + 1 + 1 + 1, 6, none⟩ = some (.slice saC L.length scC)) (v := ?_) rfl (by kernel_rfl) (by kernel_rfl) (by kernel_rfl) (fun _ _ _ h => h) (by kernel_rfl) (by assumption) (by kernel_rfl) rfl (by simp) (by rfl) ?_ (fun hU => ?_)
              rotate_left 1
              · (intro wq hq; obtain ⟨u0, u1, u2, u3, u4, u5, u6⟩ := hq; go_simp; try with_reducible rfl)
              simp only [Act.put, List.getElem_toArray, List.getElem_cons_zero, List.getElem_cons_succ, List.setIfInBounds_toArray, List.set_cons_zero, List.set_cons_succ]
              refine AnyU.take (i := 1) (v := ?_) rfl (by kernel_rfl) (by kernel_rfl) (by kernel_rfl) (fun _ _ _ h => h) (by kernel_rfl) (by assumption) (by rfl) ?_ (fun hU => ?_)
              rotate_left 1
              · (intro wq; go_simp; try with_reducible rfl)
              simp only [Act.put, List.getElem_toArray, List.getElem_cons_zero, List.getElem_cons_succ, List.setIfInBounds_toArray, List.set_cons_zero, List.set_cons_succ]
              refine AnyU.loadc (i := 2) (d := 7) [4, 5, 7] (Si := fun w' => w'.cell? ⟨w.heap.size, 5, none⟩ = some (.slice (some ⟨b1, o1, none⟩) a.names.length nc)) (v := ?_) rfl (by kernel_rfl) (by kernel_rfl) (by kernel_rfl) (fun _ _ _ h => h) (by kernel_rfl) (by assumption) (by kernel_rfl) rfl (by simp) (by rfl) ?_ (fun hU => ?_)
              rotate_left 1
              · (intro wq hq; go_simp; try with_reducible rfl)
              simp only [Act.put, List.getElem_toArray, List.getElem_cons_zero, List.getElem_cons_succ, List.setIfInBounds_toArray, List.set_cons_zero, List.set_cons_succ]
              refine AnyU.take (i := 3) (v := ?_) rfl (by kernel_rfl) (by kernel_rfl) (by kernel_rfl) (fun _ _ _ h => h) (by kernel_rfl) (by assumption) (by rfl) ?_ (fun hU => ?_)
              rotate_left 1
              · (intro wq; go_simp; try with_reducible rfl)
              simp only [Act.put, List.getElem_toArray, List.getElem_cons_zero, List.getElem_cons_succ, List.setIfInBounds_toArray, List.set_cons_zero, List.set_cons_succ]
              refine AnyU.take (i := 4) (v := ?_) rfl (by kernel_rfl) (by kernel_rfl) (by kernel_rfl) (fun _ _ _ h => h) (by kernel_rfl) (by assumption) (by rfl) ?_ (fun hU => ?_)
              rotate_left 1
              · (intro wq; go_simp; try with_reducible rfl)
              simp only [Act.put, List.getElem_toArray, List.getElem_cons_zero, List.getElem_cons_succ, List.setIfInBounds_toArray, List.set_cons_zero, List.set_cons_succ]
              refine AnyU.loadc (i := 5) (d := 7) [7] (Si := fun w' => w'.cell? ⟨b1, o1 + k, none⟩ = some (.string a.names[k])) (v := ?_) rfl (by kernel_rfl) (by kernel_rfl) (by kernel_rfl) (fun _ _ _ h => h) (by kernel_rfl) (by assumption) (by kernel_rfl) rfl (by simp) (by rfl) ?_ (fun hU => ?_)
              rotate_left 1
              · (intro wq hq; go_simp; try with_reducible rfl)
              simp only [Act.put, List.getElem_toArray, List.getElem_cons_zero, List.getElem_cons_succ, List.setIfInBounds_toArray, List.set_cons_zero, List.set_cons_succ]
              refine AnyU.loadc (i := 6) (d := 7) [7] (Si := fun w' => w'.cell? ⟨tb, 0, none⟩ = some (.int .i64 t.kind) ∧ w'.cell? ⟨tb, 1, none⟩ = some (.string t.pkg) ∧ w'.cell? ⟨tb, 2, none⟩ = some (.int .i64 t.major) ∧ w'.cell? ⟨tb, 3, none⟩ = some (.string t.mod) ∧ w'.cell? ⟨tb, 4, none⟩ = some (.string t.name) ∧ w'.cell? ⟨tb, 5, none⟩ = some (.slice na6 t.names.length nc6) ∧ w'.cell? ⟨tb, 6, none⟩ = some (.slice sa6 t.subs.length sc6)) (v := ?_) rfl (by kernel_rfl) (by kernel_rfl) (by kernel_rfl) (fun _ _ _ h => h) (by kernel_rfl) (by assumption) (by kernel_rfl) rfl (by simp) (by rfl) ?_ (fun hU => ?_)
              rotate_left 1
              · (intro wq hq; obtain ⟨u0, u1, u2, u3, u4, u5, u6⟩ := hq; go_simp; try with_reducible rfl)
              simp only [Act.put, List.getElem_toArray, List.getElem_cons_zero, List.getElem_cons_succ, List.setIfInBounds_toArray, List.set_cons_zero, List.set_cons_succ]
              refine AnyU.ready1 (i := 7) (by kernel_rfl) (AnyU.one rfl fun K hK => ?_)
              go_simp
              go_at_call 40
              refine (HRD.out.putc hB HF.out (by have := HLN.out; omega) (HF.out.each _ (List.getElem_mem hlt)) HX.out).mono ?_
              rintro e w5 ⟨na4, nc4, sa4, sc4, rfl, hb5, hr5⟩
              have ob := HRD.out.out.under hb5 HRD.out.out.lt
              have z0 := ob.cell 0
              have zf0 := ob.free 0
              have z1 := ob.cell 1
              have zf1 := ob.free 1
              have z2 := ob.cell 2
              have zf2 := ob.free 2
              have z3 := ob.cell 3
              have zf3 := ob.free 3
              have z4 := ob.cell 4
              have zf4 := ob.free 4
              have z5 := ob.cell 5
              have zf5 := ob.free 5
              have z6 := ob.cell 6
              have zf6 := ob.free 6
              simp at z0 z1 z2 z3 z4 z5 z6
              have HR5 := Lib.hid hr5
              clear ob hr5 hb5
              refine hK.out _ _ (Until.off (by kernel_rfl)) (fun hU => ?_)
              clear hK K
              try simp only [Act.put, List.getElem_toArray, List.getElem_cons_zero, List.getElem_cons_succ, List.setIfInBounds_toArray, List.set_cons_zero, List.set_cons_succ]
              refine AnyU.ready1 (i := 8) (by kernel_rfl) (AnyU.one rfl fun K hK => ?_)
              go_simp
              refine hK.out _ _ (Until.off (by kernel_rfl)) (fun hU => ?_)
              clear hK K
              try simp only [Act.put, List.getElem_toArray, List.getElem_cons_zero, List.getElem_cons_succ, List.setIfInBounds_toArray, List.set_cons_zero, List.set_cons_succ]
              refine AnyU.done (by kernel_rfl) ?_
              have hr6 := HR5.out
              generalize (((((((w5.setCell ⟨w.heap.size + 1 + 1 + 1, 0, none⟩ (.int .i64 a.kind)).setCell ⟨w.heap.size + 1 + 1 + 1, 1, none⟩ (.string { data := #[] })).setCell ⟨w.heap.size + 1 + 1 + 1, 2, none⟩ (.int .i64 0)).setCell ⟨w.heap.size + 1 + 1 + 1, 3, none⟩ (.string { data := #[] })).setCell ⟨w.heap.size + 1 + 1 + 1, 4, none⟩ (.string { data := #[] })).setCell ⟨w.heap.size + 1 + 1 + 1, 5, none⟩ (.slice na4 (putF a.names[k] t L).length nc4)).setCell ⟨w.heap.size + 1 + 1 + 1, 6, none⟩ (.slice sa4 (putF a.names[k] t L).length sc4)) = Wz at hr6 ⊢
              have HR6 := Lib.hid hr6
              clear hU hr6 HR5 z0 z1 z2 z3 z4 z5 z6 zf0 zf1 zf2 zf3 zf4 zf5 zf6
              go_wp2_with fail
              first
                | exact ⟨⟨k + 1, _, _, by omega, by go_num, HR6.out, HST.out, HALL2.out, putF_two HLN.out⟩, by simp [intOf]; omega⟩
                | (go_roundw
                   case rel => exact ⟨k + 1, _, _, by omega, by go_num, HR6.out, HST.out, HALL2.out, putF_two HLN.out⟩
                   case measure => simp [intOf]; omega)
    · have hke : k = a.names.length := by omega
      have hkx : ¬ (k : Int) < (a.names.length : Int) := by omega
      have hrs := HRS.out
      have hall := HALL.out
      rw [hke] at hrs hall
      have HRS3 := Lib.hid hrs.second
      have HALL3 := Lib.hid hall
      have HL40 := Lib.hid (show L.length ≤ 40 by have := HLN.out; have := HNA.out; omega)
      clear hrs hall hr
      go_wp2_with fail
      go_loopw [18] (fun i wq => ∃ (k : Nat) (L : List (ByteArray × Ty)) (co : Array Value), k ≤ b.names.length ∧ i = .int .i64 k ∧ RMem w wq a b na nc sa sc na' nc' sa' sc' B L co ∧ RSt L (DB a b al k) (gB r a b al) ∧ L.length ≤ 40 + 2 * k) (fun i _ => b.names.length - (intOf i).toNat)
      case atStart => exact ⟨0, _, _, Nat.zero_le _, rfl, HR.out, HRS3.out, HL40.out⟩
      case round =>
        rename World => wq
        clear HRS3 HL40 HR HRS HALL HLN a5 b5 hlt hke hkx hk hacc hsz
        obtain ⟨k2, L2, co2, hk2, rfl, hr, hrs, hlen⟩ := hrel
        obtain ⟨na7, nc7, sa7, sc7, rfl⟩ := hr.form
        have HR := Lib.hid hr
        have HRS := Lib.hid hrs
        have HLN := Lib.hid hlen
        have hacc := hr.below
        have hsz := hr.size
        have a5 := hr.boxa.cell 5
        have b5 := hr.boxb.cell 5
        have b6 := hr.boxb.cell 6
        have a0 := hr.boxa.cell 0
        simp [tyCells] at a5 b5 b6 a0
        rw [HK.out] at a0
        have HA0 := Lib.hid a0
        have hwq : B ≤ wq.heap.size := by omega
        clear hrs hlen
        by_cases hlt : k2 < b.names.length
        · have hlt' : k2 < b.subs.length := by have := HNB.out; omega
          have hk20 : k2 < 20 := by omega
          have hltI : (k2 : Int) < (b.names.length : Int) := by omega
          have hltJ : (k2 : Int) < (b.subs.length : Int) := by omega
          clear hr
          cases al
          case false =>
            have hst := Lib.hid (HRS.out.skipB hlt (fun h => by cases h))
            go_upto_region 36 with fail
            go_quiet (fail)
            go_wp2_with fail
            first
              | exact ⟨⟨k2 + 1, _, _, by omega, by go_num, HR.out.under hB (below_drewN (Below.refl wq.heap.size wq) _), hst.out, by have := HLN.out; omega⟩, by simp [intOf]; omega⟩
              | (go_roundw
                 case rel => exact ⟨k2 + 1, _, _, by omega, by go_num, HR.out.under hB (below_drewN (Below.refl wq.heap.size wq) _), hst.out, by have := HLN.out; omega⟩
                 case measure => simp [intOf]; omega)
          case true =>
            have hnk : ∃ b1 o1, na' = some ⟨b1, o1, none⟩ ∧ wq.cell? ⟨b1, o1 + k2, none⟩ = some (.string b.names[k2]) ∧ b1 < B := by
              rcases HN'.out with h | ⟨b1, o1, h1, h2, h3⟩
              · rw [h] at hlt; simp at hlt
              · exact ⟨b1, o1, h1, (hacc.cell (p := ⟨b1, o1 + k2, none⟩) (by simp; omega)).trans (h3 k2 hlt), h2⟩
            obtain ⟨b1, o1, rfl, hcn, hb1⟩ := hnk
            have HA5 := Lib.hid a5
            have HB5 := Lib.hid b5
            have HB6 := Lib.hid b6
            have HCN := Lib.hid hcn
            clear a0
            go_upto_region 36 with fail
            clear a5 b5 b6 hcn
            generalize hmb : memB b.names[k2] a.names = mb
            have HMB := Lib.hid hmb
            clear hmb
            refine wp_region_until [(9, fun w' => w'.cell? ⟨w.heap.size, 5, none⟩ = some (.slice na a.names.length nc)), (9, fun w' => w'.cell? ⟨w.heap.size + 1, 5, none⟩ = some (.slice (some ⟨b1, o1, none⟩) b.names.length nc')), (9, fun w' => w'.cell? ⟨b1, o1 + k2, none⟩ = some (.string b.names[k2]))] (by kernel_rfl) (Until.cons (fun _ => HA5.out) (Until.cons (fun _ => HB5.out) (Until.cons (fun _ => HCN.out) Until.nil))) (fun hU => ?_)
            refine AnyU.take (i := 0) (v := ?_) rfl (by kernel_rfl) (by kernel_rfl) (by kernel_rfl) (fun _ _ _ h => h) (by kernel_rfl) (by assumption) (by rfl) ?_ (fun hU => ?_)
            rotate_left 1
            · (intro wq; go_simp; try with_reducible rfl)
            simp only [Act.put, List.getElem_toArray, List.getElem_cons_zero, List.getElem_cons_succ, List.setIfInBounds_toArray, List.set_cons_zero, List.set_cons_succ]
            refine AnyU.take (i := 1) (v := ?_) rfl (by kernel_rfl) (by kernel_rfl) (by kernel_rfl) (fun _ _ _ h => h) (by kernel_rfl) (by assumption) (by rfl) ?_ (fun hU => ?_)
            rotate_left 1
            · (intro wq; go_simp; try with_reducible rfl)
            simp only [Act.put, List.getElem_toArray, List.getElem_cons_zero, List.getElem_cons_succ, List.setIfInBounds_toArray, List.set_cons_zero, List.set_cons_succ]
            refine AnyU.take (i := 2) (v := ?_) rfl (by kernel_rfl) (by kernel_rfl) (by kernel_rfl) (fun _ _ _ h => h) (by kernel_rfl) (by assumption) (by rfl) ?_ (fun hU => ?_)
            rotate_left 1
            · (intro wq; go_simp; try with_reducible rfl)
            simp only [Act.put, List.getElem_toArray, List.getElem_cons_zero, List.getElem_cons_succ, List.setIfInBounds_toArray, List.set_cons_zero, List.set_cons_succ]
            refine AnyU.loadc (i := 3) (d := 9) [9] (Si := fun w' => w'.cell? ⟨w.heap.size, 5, none⟩ = some (.slice na a.names.length nc)) (v := ?_) rfl (by kernel_rfl) (by kernel_rfl) (by kernel_rfl) (fun _ _ _ h => h) (by kernel_rfl) (by assumption) (by kernel_rfl) rfl (by simp) (by rfl) ?_ (fun hU => ?_)
            rotate_left 1
            · (intro wq hq; go_simp; try with_reducible rfl)
            simp only [Act.put, List.getElem_toArray, List.getElem_cons_zero, List.getElem_cons_succ, List.setIfInBounds_toArray, List.set_cons_zero, List.set_cons_succ]
            refine AnyU.take (i := 4) (v := ?_) rfl (by kernel_rfl) (by kernel_rfl) (by kernel_rfl) (fun _ _ _ h => h) (by kernel_rfl) (by assumption) (by rfl) ?_ (fun hU => ?_)
            rotate_left 1
            · (intro wq; go_simp; try with_reducible rfl)
            simp only [Act.put, List.getElem_toArray, List.getElem_cons_zero, List.getElem_cons_succ, List.setIfInBounds_toArray, List.set_cons_zero, List.set_cons_succ]
            refine AnyU.loadc (i := 5) (d := 9) [7, 8, 9] (Si := fun w' => w'.cell? ⟨w.heap.size + 1, 5, none⟩ = some (.slice (some ⟨b1, o1, none⟩) b.names.length nc')) (v := ?_) rfl (by kernel_rfl) (by kernel_rfl) (by kernel_rfl) (fun _ _ _ h => h) (by kernel_rfl) (by assumption) (by kernel_rfl) rfl (by simp) (by rfl) ?_ (fun hU => ?_)
            rotate_left 1
            · (intro wq hq; go_simp; try with_reducible rfl)
            simp only [Act.put, List.getElem_toArray, List.getElem_cons_zero, List.getElem_cons_succ, List.setIfInBounds_toArray, List.set_cons_zero, List.set_cons_succ]
            refine AnyU.take (i := 6) (v := ?_) rfl (by kernel_rfl) (by kernel_rfl) (by kernel_rfl) (fun _ _ _ h => h) (by kernel_rfl) (by assumption) (by rfl) ?_ (fun hU => ?_)
            rotate_left 1
            · (intro wq; go_simp; try with_reducible rfl)
            simp only [Act.put, List.getElem_toArray, List.getElem_cons_zero, List.getElem_cons_succ, List.setIfInBounds_toArray, List.set_cons_zero, List.set_cons_succ]
            refine AnyU.take (i := 7) (v := ?_) rfl (by kernel_rfl) (by kernel_rfl) (by kernel_rfl) (fun _ _ _ h => h) (by kernel_rfl) (by assumption) (by rfl) ?_ (fun hU => ?_)
            rotate_left 1
            · (intro wq; go_simp; try with_reducible rfl)
            simp only [Act.put, List.getElem_toArray, List.getElem_cons_zero, List.getElem_cons_succ, List.setIfInBounds_toArray, List.set_cons_zero, List.set_cons_succ]
            refine AnyU.loadc (i := 8) (d := 9) [9] (Si := fun w' => w'.cell? ⟨b1, o1 + k2, none⟩ = some (.string b.names[k2])) (v := ?_) rfl (by kernel_rfl) (by kernel_rfl) (by kernel_rfl) (fun _ _ _ h => h) (by kernel_rfl) (by assumption) (by kernel_rfl) rfl (by simp) (by rfl) ?_ (fun hU => ?_)
            rotate_left 1
            · (intro wq hq; go_simp; try with_reducible rfl)
            simp only [Act.put, List.getElem_toArray, List.getElem_cons_zero, List.getElem_cons_succ, List.setIfInBounds_toArray, List.set_cons_zero, List.set_cons_succ]
            refine AnyU.ready1 (i := 9) (by kernel_rfl) (AnyU.one rfl fun K hK => ?_)
            go_simp
            go_at_call 37
            refine (refOf_c na nc B a.names b.names[k2] wq.drew (by have := HRA.out.len; omega) ((HN.out.keep fun p hp => hacc.cell (p := p) (by omega)).keep fun _ _ => rfl)).mono ?_
            rintro e w5 ⟨rfl, rfl⟩
            refine hK.out _ _ (Until.off (by kernel_rfl)) (fun hU => ?_)
            clear hK K
            try simp only [Act.put, List.getElem_toArray, List.getElem_cons_zero, List.getElem_cons_succ, List.setIfInBounds_toArray, List.set_cons_zero, List.set_cons_succ]
            cases mb
            case true =>
              rw [ofI_hit HMB.out]
              generalize firstOf a.names b.names[k2] = j2
              have hj0 : ¬ ((j2 : Int) < 0) := by omega
              refine AnyU.take (i := 10) (v := ?_) rfl (by kernel_rfl) (by kernel_rfl) (by kernel_rfl) (fun _ _ _ h => h) (by kernel_rfl) (by assumption) (by rfl) ?_ (fun hU => ?_)
              rotate_left 1
              · (intro wq; go_simp; try with_reducible rfl)
              simp only [Act.put, List.getElem_toArray, List.getElem_cons_zero, List.getElem_cons_succ, List.setIfInBounds_toArray, List.set_cons_zero, List.set_cons_succ]
              refine AnyU.take (i := 11) (v := ?_) rfl (by kernel_rfl) (by kernel_rfl) (by kernel_rfl) (fun _ _ _ h => h) (by kernel_rfl) (by assumption) (by rfl) ?_ (fun hU => ?_)
              rotate_left 1
              · (intro wq; go_simp; try with_reducible rfl)
              simp only [Act.put, List.getElem_toArray, List.getElem_cons_zero, List.getElem_cons_succ, List.setIfInBounds_toArray, List.set_cons_zero, List.set_cons_succ]
              refine AnyU.done (by kernel_rfl) ?_
              clear hU
              have hst := Lib.hid (HRS.out.skipB hlt (fun _ => HMB.out))
              have HRq := Lib.hid (HR.out.under hB (Below.refl wq.heap.size wq).drew)
              go_wp2_with fail
              first
                | exact ⟨⟨k2 + 1, _, _, by omega, by go_num, HRq.out, hst.out, by have := HLN.out; omega⟩, by simp [intOf]; omega⟩
                | (go_roundw
                   case rel => exact ⟨k2 + 1, _, _, by omega, by go_num, HRq.out, hst.out, by have := HLN.out; omega⟩
                   case measure => simp [intOf]; omega)
            case false =>
              rw [ofI_miss HMB.out]
              refine AnyU.take (i := 10) (v := ?_) rfl (by kernel_rfl) (by kernel_rfl) (by kernel_rfl) (fun _ _ _ h => h) (by kernel_rfl) (by assumption) (by rfl) ?_ (fun hU => ?_)
              rotate_left 1
              · (intro wq; go_simp; try with_reducible rfl)
              simp only [Act.put, List.getElem_toArray, List.getElem_cons_zero, List.getElem_cons_succ, List.setIfInBounds_toArray, List.set_cons_zero, List.set_cons_succ]
              refine AnyU.take (i := 11) (v := ?_) rfl (by kernel_rfl) (by kernel_rfl) (by kernel_rfl) (fun _ _ _ h => h) (by kernel_rfl) (by assumption) (by rfl) ?_ (fun hU => ?_)
              rotate_left 1
              · (intro wq; go_simp; try with_reducible rfl)
              simp only [Act.put, List.getElem_toArray, List.getElem_cons_zero, List.getElem_cons_succ, List.setIfInBounds_toArray, List.set_cons_zero, List.set_cons_succ]
              refine AnyU.done (by kernel_rfl) ?_
              clear hU
              have hst := Lib.hid (HRS.out.putB HRB.out hlt hlt' rfl HMB.out)
              have HRq := Lib.hid (HR.out.under hB (Below.refl wq.heap.size wq).drew)
              have hD : ∀ p, wq.drew.cell? p = wq.cell? p := fun _ => rfl
              generalize wq.drew = wv at HRq hD ⊢
              have HCN2 := Lib.hid ((hD _).trans HCN.out)
              have HB5' := Lib.hid ((hD _).trans HB5.out)
              have HB6' := Lib.hid ((hD _).trans HB6.out)
              clear hD HA5 HB5 HB6 HCN HR
              have hT2 := (HU'.out k2 hlt').under (HRq.out.below.mono hB)
              obtain ⟨b2, o2, na2, nc2, sa2, sc2, rfl, hbb2, hfk2, c0, c1, c2, c3, c4, c5, c6⟩ := TyC.elem (HS'.out.keep fun p hp => HRq.out.below.cell (p := p) (by omega)) hlt' hT2
              rw [hfk2] at hT2
              have HT2 := Lib.hid hT2
              have HC2 := Lib.hid (And.intro c0 (And.intro c1 (And.intro c2 (And.intro c3 (And.intro c4 (And.intro c5 c6))))))
              clear hT2 hfk2 c0 c1 c2 c3 c4 c5 c6
              have ob := HRq.out.out
              have o0 := ob.cell 0
              have o1 := ob.cell 1
              have o2 := ob.cell 2
              have o3 := ob.cell 3
              have o4 := ob.cell 4
              have o5 := ob.cell 5
              have o6 := ob.cell 6
              simp at o0 o1 o2 o3 o4 o5 o6
              have HOUT := Lib.hid (And.intro o0 (And.intro o1 (And.intro o2 (And.intro o3 (And.intro o4 (And.intro o5 o6))))))
              clear ob o0 o1 o2 o3 o4 o5 o6
              go_upto_region 37 with fail
              refine wp_region_until [(11, fun w' => w'.cell? ⟨w.heap.size + 1 + 1 + 1, 0, none⟩ = some (.int .i64 a.kind) ∧ w'.cell? ⟨w.heap.size + 1 + 1 + 1, 1, none⟩ = some (.string { data := #[] }) ∧ w'.cell? ⟨w.heap.size + 1 + 1 + 1, 2, none⟩ = some (.int .i64 0) ∧ w'.cell? ⟨w.heap.size + 1 + 1 + 1, 3, none⟩ = some (.string { data := #[] }) ∧ w'.cell? ⟨w.heap.size + 1 + 1 + 1, 4, none⟩ = some (.string { data := #[] }) ∧ w'.cell? ⟨w.heap.size + 1 + 1 + 1, 5, none⟩ = some (.slice na7 L2.length nc7) ∧ w'.cell? ⟨w.heap.size + 1 + 1 + 1, 6, none⟩ = some (.slice sa7 L2.length sc7)), (11, fun w' => w'.cell? ⟨w.heap.size + 1, 5, none⟩ = some (.slice (some ⟨b1, o1, none⟩) b.names.length nc')), (11, fun w' => w'.cell? ⟨b1, o1 + k2, none⟩ = some (.string b.names[k2])), (11, fun w' => w'.cell? ⟨w.heap.size + 1, 6, none⟩ = some (.slice (some ⟨b2, o2, none⟩) b.subs.length sc')), (11, fun w' => w'.cell? ⟨b2, o2 + k2 * 7, none⟩ = some (.int .i64 b.subs[k2].kind) ∧ w'.cell? ⟨b2, o2 + k2 * 7 + 1, none⟩ = some (.string b.subs[k2].pkg) ∧ w'.cell? ⟨b2, o2 + k2 * 7 + 2, none⟩ = some (.int .i64 b.subs[k2].major) ∧ w'.cell? ⟨b2, o2 + k2 * 7 + 3, none⟩ = some (.string b.subs[k2].mod) ∧ w'.cell? ⟨b2, o2 + k2 * 7 + 4, none⟩ = some (.string b.subs[k2].name) ∧ w'.cell? ⟨b2, o2 + k2 * 7 + 5, none⟩ = some (.slice na2 b.subs[k2].names.length nc2) ∧ w'.cell? ⟨b2, o2 + k2 * 7 + 6, none⟩ = some (.slice sa2 b.subs[k2].subs.length sc2))] (by kernel_rfl) (Until.cons (fun _ => HOUT.out) (Until.cons (fun _ => HB5'.out) (Until.cons (fun _ => HCN2.out) (Until.cons (fun _ => HB6'.out) (Until.cons (fun _ => HC2.out) Until.nil))))) (fun hU => ?_)
              refine AnyU.loadc (i := 0) (d := 11) [11] (Si := fun w' => w'.cell? ⟨w.heap.size + 1 + 1 + 1, 0, none⟩ = some (.int .i64 a.kind) ∧ w'.cell? ⟨w.heap.size + 1 + 1 + 1, 1, none⟩ = some (.string { data := #[] }) ∧ w'.cell? ⟨w.heap.size + 1 + 1 + 1, 2, none⟩ = some (.int .i64 0) ∧ w'.cell? ⟨w.heap.size + 1 + 1 + 1, 3, none⟩ = some (.string { data := #[] }) ∧ w'.cell? ⟨w.heap.size + 1 + 1 + 1, 4, none⟩ = some (.string { data := #[] }) ∧ w'.cell? ⟨w.heap.size + 1 + 1 + 1, 5, none⟩ = some (.slice na7 L2.length nc7) ∧ w'.cell? ⟨w.heap.size + 1 + 1 + 1, 6, none⟩ = some (.slice sa7 L2.length sc7)) (v := ?_) rfl (by kernel_rfl) (by kernel_rfl) (by kernel_rfl) (fun _ _ _ h => h) (by kernel_rfl) (by assumption) (by kernel_rfl) rfl (by simp) (by rfl) ?_ (fun hU => ?_)
              rotate_left 1
              · (intro wq hq; obtain ⟨u0, u1, u2, u3, u4, u5, u6⟩ := hq; go_simp; try with_reducible rfl)
              simp only [Act.put, List.getElem_toArray, List.getElem_cons_zero, List.getElem_cons_succ, List.setIfInBounds_toArray, List.set_cons_zero, List.set_cons_succ]
              refine AnyU.take (i := 1) (v := ?_) rfl (by kernel_rfl) (by kernel_rfl) (by kernel_rfl) (fun _ _ _ h => h) (by kernel_rfl) (by assumption) (by rfl) ?_ (fun hU => ?_)
              rotate_left 1
              · (intro wq; go_simp; try with_reducible rfl)
              simp only [Act.put, List.getElem_toArray, List.getElem_cons_zero, List.getElem_cons_succ, List.setIfInBounds_toArray, List.set_cons_zero, List.set_cons_succ]
              refine AnyU.loadc (i := 2) (d := 11) [4, 5, 11] (Si := fun w' => w'.cell? ⟨w.heap.size + 1, 5, none⟩ = some (.slice (some ⟨b1, o1, none⟩) b.names.length nc')) (v := ?_) rfl (by kernel_rfl) (by kernel_rfl) (by kernel_rfl) (fun _ _ _ h => h) (by kernel_rfl) (by assumption) (by kernel_rfl) rfl (by simp) (by rfl) ?_ (fun hU => ?_)
              rotate_left 1
              · (intro wq hq; go_simp; try with_reducible rfl)
              simp only [Act.put, List.getElem_toArray, List.getElem_cons_zero, List.getElem_cons_succ, List.setIfInBounds_toArray, List.set_cons_zero, List.set_cons_succ]
              refine AnyU.take (i := 3) (v := ?_) rfl (by kernel_rfl) (by kernel_rfl) (by kernel_rfl) (fun _ _ _ h => h) (by kernel_rfl) (by assumption) (by rfl) ?_ (fun hU => ?_)
              rotate_left 1
              · (intro wq; go_simp; try with_reducible rfl)
              simp only [Act.put, List.getElem_toArray, List.getElem_cons_zero, List.getElem_cons_succ, List.setIfInBounds_toArray, List.set_cons_zero, List.set_cons_succ]
              refine AnyU.take (i := 4) (v := ?_) rfl (by kernel_rfl) (by kernel_rfl) (by kernel_rfl) (fun _ _ _ h => h) (by kernel_rfl) (by assumption) (by rfl) ?_ (fun hU => ?_)
              rotate_left 1
              · (intro wq; go_simp; try with_reducible rfl)
              simp only [Act.put, List.getElem_toArray, List.getElem_cons_zero, List.getElem_cons_succ, List.setIfInBounds_toArray, List.set_cons_zero, List.set_cons_succ]
              refine AnyU.loadc (i := 5) (d := 11) [11] (Si := fun w' => w'.cell? ⟨b1, o1 + k2, none⟩ = some (.string b.names[k2])) (v := ?_) rfl (by kernel_rfl) (by kernel_rfl) (by kernel_rfl) (fun _ _ _ h => h) (by kernel_rfl) (by assumption) (by kernel_rfl) rfl (by simp) (by rfl) ?_ (fun hU => ?_)
              rotate_left 1
              · (intro wq hq; go_simp; try with_reducible rfl)
              simp only [Act.put, List.getElem_toArray, List.getElem_cons_zero, List.getElem_cons_succ, List.setIfInBounds_toArray, List.set_cons_zero, List.set_cons_succ]
              refine AnyU.take (i := 6) (v := ?_) rfl (by kernel_rfl) (by kernel_rfl) (by kernel_rfl) (fun _ _ _ h => h) (by kernel_rfl) (by assumption) (by rfl) ?_ (fun hU => ?_)
              rotate_left 1
              · (intro wq; go_simp; try with_reducible rfl)
              simp only [Act.put, List.getElem_toArray, List.getElem_cons_zero, List.getElem_cons_succ, List.setIfInBounds_toArray, List.set_cons_zero, List.set_cons_succ]
              refine AnyU.loadc (i := 7) (d := 11) [9, 10, 11] (Si := fun w' => w'.cell? ⟨w.heap.size + 1, 6, none⟩ = some (.slice (some ⟨b2, o2, none⟩) b.subs.length sc')) (v := ?_) rfl (by kernel_rfl) (by kernel_rfl) (by kernel_rfl) (fun _ _ _ h => h) (by kernel_rfl) (by assumption) (by kernel_rfl) rfl (by simp) (by rfl) ?_ (fun hU => ?_)
              rotate_left 1
              · (intro wq hq; go_simp; try with_reducible rfl)
              simp only [Act.put, List.getElem_toArray, List.getElem_cons_zero, List.getElem_cons_succ, List.setIfInBounds_toArray, List.set_cons_zero, List.set_cons_succ]
              refine AnyU.take (i := 8) (v := ?_) rfl (by kernel_rfl) (by kernel_rfl) (by kernel_rfl) (fun _ _ _ h => h) (by kernel_rfl) (by assumption) (by rfl) ?_ (fun hU => ?_)
              rotate_left 1
              · (intro wq; go_simp; try with_reducible rfl)
              simp only [Act.put, List.getElem_toArray, List.getElem_cons_zero, List.getElem_cons_succ, List.setIfInBounds_toArray, List.set_cons_zero, List.set_cons_succ]
              refine AnyU.take (i := 9) (v := ?_) rfl (by kernel_rfl) (by kernel_rfl) (by kernel_rfl) (fun _ _ _ h => h) (by kernel_rfl) (by assumption) (by rfl) ?_ (fun hU => ?_)
              rotate_left 1
              · (intro wq; go_simp; try with_reducible rfl)
              simp only [Act.put, List.getElem_toArray, List.getElem_cons_zero, List.getElem_cons_succ, List.setIfInBounds_toArray, List.set_cons_zero, List.set_cons_succ]
              refine AnyU.loadc (i := 10) (d := 11) [11] (Si := fun w' => w'.cell? ⟨b2, o2 + k2 * 7, none⟩ = some (.int .i64 b.subs[k2].kind) ∧ w'.cell? ⟨b2, o2 + k2 * 7 + 1, none⟩ = some (.string b.subs[k2].pkg) ∧ w'.cell? ⟨b2, o2 + k2 * 7 + 2, none⟩ = some (.int .i64 b.subs[k2].major) ∧ w'.cell? ⟨b2, o2 + k2 * 7 + 3, none⟩ = some (.string b.subs[k2].mod) ∧ w'.cell? ⟨b2, o2 + k2 * 7 + 4, none⟩ = some (.string b.subs[k2].name) ∧ w'.cell? ⟨b2, o2 + k2 * 7 + 5, none⟩ = some (.slice na2 b.subs[k2].names.length nc2) ∧ w'.cell? ⟨b2, o2 + k2 * 7 + 6, none⟩ = some (.slice sa2 b.subs[k2].subs.length sc2)) (v := ?_) rfl (by kernel_rfl) (by kernel_rfl) (by kernel_rfl) (fun _ _ _ h => h) (by kernel_rfl) (by assumption) (by kernel_rfl) rfl (by simp) (by rfl) ?_ (fun hU => ?_)
              rotate_left 1
              · (intro wq hq; obtain ⟨u0, u1, u2, u3, u4, u5, u6⟩ := hq; go_simp; try with_reducible rfl)
              simp only [Act.put, List.getElem_toArray, List.getElem_cons_zero, List.getElem_cons_succ, List.setIfInBounds_toArray, List.set_cons_zero, List.set_cons_succ]
              refine AnyU.ready1 (i := 11) (by kernel_rfl) (AnyU.one rfl fun K hK => ?_)
              go_simp
              go_at_call 40
              refine (HRq.out.putc hB HF.out (by have := HLN.out; omega) (HFB.out.each _ (List.getElem_mem hlt)) (HT2.out.toM.mono fun b hb => .inl hb)).mono ?_
              rintro e w5 ⟨na4, nc4, sa4, sc4, rfl, hb5, hr5⟩
              have ob := HRq.out.out.under hb5 HRq.out.out.lt
              have z0 := ob.cell 0
              have zf0 := ob.free 0
              have z1 := ob.cell 1
              have zf1 := ob.free 1
              have z2 := ob.cell 2
              have zf2 := ob.free 2
              have z3 := ob.cell 3
              have zf3 := ob.free 3
              have z4 := ob.cell 4
              have zf4 := ob.free 4
              have z5 := ob.cell 5
              have zf5 := ob.free 5
              have z6 := ob.cell 6
              have zf6 := ob.free 6
              simp at z0 z1 z2 z3 z4 z5 z6
              have HR5 := Lib.hid hr5
              clear ob hr5 hb5
              refine hK.out _ _ (Until.off (by kernel_rfl)) (fun hU => ?_)
              clear hK K
              try simp only [Act.put, List.getElem_toArray, List.getElem_cons_zero, List.getElem_cons_succ, List.setIfInBounds_toArray, List.set_cons_zero, List.set_cons_succ]
              refine AnyU.ready1 (i := 12) (by kernel_rfl) (AnyU.one rfl fun K hK => ?_)
              go_simp
              refine hK.out _ _ (Until.off (by kernel_rfl)) (fun hU => ?_)
              clear hK K
              try simp only [Act.put, List.getElem_toArray, List.getElem_cons_zero, List.getElem_cons_succ, List.setIfInBounds_toArray, List.set_cons_zero, List.set_cons_succ]
              refine AnyU.done (by kernel_rfl) ?_
              have hr6 := HR5.out
              generalize (((((((w5.setCell ⟨w.heap.size + 1 + 1 + 1, 0, none⟩ (.int .i64 a.kind)).setCell ⟨w.heap.size + 1 + 1 + 1, 1, none⟩ (.string { data := #[] })).setCell ⟨w.heap.size + 1 + 1 + 1, 2, none⟩ (.int .i64 0)).setCell ⟨w.heap.size + 1 + 1 + 1, 3, none⟩ (.string { data := #[] })).setCell ⟨w.heap.size + 1 + 1 + 1, 4, none⟩ (.string { data := #[] })).setCell ⟨w.heap.size + 1 + 1 + 1, 5, none⟩ (.slice na4 (putF b.names[k2] b.subs[k2] L2).length nc4)).setCell ⟨w.heap.size + 1 + 1 + 1, 6, none⟩ (.slice sa4 (putF b.names[k2] b.subs[k2] L2).length sc4)) = Wz at hr6 ⊢
              have HR6 := Lib.hid hr6
              clear hU hr6 HR5 z0 z1 z2 z3 z4 z5 z6 zf0 zf1 zf2 zf3 zf4 zf5 zf6
              go_wp2_with fail
              first
                | exact ⟨⟨k2 + 1, _, _, by omega, by go_num, HR6.out, hst.out, by have := HLN.out; have := putF_len b.names[k2] b.subs[k2] L2; omega⟩, by simp [intOf]; omega⟩
                | (go_roundw
                   case rel => exact ⟨k2 + 1, _, _, by omega, by go_num, HR6.out, hst.out, by have := HLN.out; have := putF_len b.names[k2] b.subs[k2] L2; omega⟩
                   case measure => simp [intOf]; omega)
        · have hke : k2 = b.names.length := by omega
          have hkx : ¬ (k2 : Int) < (b.names.length : Int) := by omega
          have hrs := HRS.out
          rw [hke] at hrs
          have HFIN := Lib.hid (RSt.fin HRA.out HNA.out hrs HALL3.out HKK.out)
          clear hrs hke
          have hrb := hr.res
          have z0 := hrb.cell 0
          have f0 := hrb.free 0
          have z1 := hrb.cell 1
          have f1 := hrb.free 1
          have z2 := hrb.cell 2
          have f2 := hrb.free 2
          have z3 := hrb.cell 3
          have f3 := hrb.free 3
          have z4 := hrb.cell 4
          have f4 := hrb.free 4
          have z5 := hrb.cell 5
          have f5 := hrb.free 5
          have z6 := hrb.cell 6
          have f6 := hrb.free 6
          have ob := hr.out
          have o0 := ob.cell 0
          have o1 := ob.cell 1
          have o2 := ob.cell 2
          have o3 := ob.cell 3
          have o4 := ob.cell 4
          have o5 := ob.cell 5
          have o6 := ob.cell 6
          simp at z0 z1 z2 z3 z4 z5 z6 o0 o1 o2 o3 o4 o5 o6
          rw [HK.out] at o0
          clear hrb ob hr
          go_upto_region 38 with fail
          go_region
          have hblk := put7_full (.int .i64 5) (.string { data := #[] }) (.int .i64 0) (.string { data := #[] }) (.string { data := #[] }) (.slice na7 L2.length nc7) (.slice sa7 L2.length sc7) HR.out.res
          have hbl := put7_bel (.int .i64 5) (.string { data := #[] }) (.int .i64 0) (.string { data := #[] }) (.string { data := #[] }) (.slice na7 L2.length nc7) (.slice sa7 L2.length sc7) HR.out.below (show w.heap.size ≤ w.heap.size + 1 + 1 by omega)
          have hty := rmem_last (v0 := (.int .i64 5)) (v1 := (.string { data := #[] })) (v2 := (.int .i64 0)) (v3 := (.string { data := #[] })) (v4 := (.string { data := #[] })) (v5 := (.slice na7 L2.length nc7)) (v6 := (.slice sa7 L2.length sc7)) HR.out hB
          rw [put7_zero] at hty
          rw [HK.out] at hty
          generalize (((((((wq.setCell ⟨w.heap.size + 1 + 1, 0, none⟩ (.int .i64 5)).setCell ⟨w.heap.size + 1 + 1, 1, none⟩ (.string { data := #[] })).setCell ⟨w.heap.size + 1 + 1, 2, none⟩ (.int .i64 0)).setCell ⟨w.heap.size + 1 + 1, 3, none⟩ (.string { data := #[] })).setCell ⟨w.heap.size + 1 + 1, 4, none⟩ (.string { data := #[] })).setCell ⟨w.heap.size + 1 + 1, 5, none⟩ (.slice na7 L2.length nc7)).setCell ⟨w.heap.size + 1 + 1, 6, none⟩ (.slice sa7 L2.length sc7)) = Wz at hblk hbl hty ⊢
          have p0 := hblk.cell 0
          have p1 := hblk.cell 1
          have p2 := hblk.cell 2
          have p3 := hblk.cell 3
          have p4 := hblk.cell 4
          have p5 := hblk.cell 5
          have p6 := hblk.cell 6
          simp at p0 p1 p2 p3 p4 p5 p6
          go_wp2_with fail
          refine bodyPost_ret (by simp [results, Try.results21, go_sem, p0, p1, p2, p3, p4, p5, p6]; try rfl) rfl ?_
          have hfin := HFIN.out
          rw [HK.out] at hfin
          exact ⟨⟨tyOf 5 L2, _, (by rw [hfin.1]; first | rfl | simp), hfin.2, (hty.keep (fun _ _ => rfl) : TyM Wz.drew _ _ _)⟩, hbl.drew⟩
set_option maxRecDepth 100000 in
set_option maxHeartbeats 40000000 in
theorem rbound_rows6 (r : Ty → Ty → Option Ty) (a b : Ty) (up : Bool) (hk : a.kind = 6) (hk' : b.kind = 6) (hra : RowsOk a) (hrb : RowsOk b) (hla : a.subs.length ≤ 20) (hlb : b.subs.length ≤ 20) (hna : a.names.length = a.subs.length) (hnb : b.names.length = b.subs.length) (h0 : 0 < a.names.length)
    (hbd : ∀ x y, x ∈ a.subs → y ∈ b.subs → RBoundAt x y up (r x y)) : RBoundAt a b up (rowsR r a b up) := by
  intro cs cs' B w ha hb hB
  have HI := Lib.hid hbd
  obtain ⟨na, nc, sa, sc, f, rfl, hfa, hn, hs, -, -, hsub⟩ := ha.inv
  obtain ⟨na', nc', sa', sc', f', rfl, hfb, hn', hs', -, -, hsub'⟩ := hb.inv
  have HF := Lib.hid hfa
  have HFB := Lib.hid hfb
  have HN := Lib.hid hn
  have HN' := Lib.hid hn'
  have HS := Lib.hid hs
  have HU := Lib.hid hsub
  have HS' := Lib.hid hs'
  have HU' := Lib.hid hsub'
  have HK := Lib.hid hk
  have HK' := Lib.hid hk'
  have HRA := Lib.hid hra
  have HRB := Lib.hid hrb
  have HNA := Lib.hid hna
  have HNB := Lib.hid hnb
  have HKK := Lib.hid (show a.kind = 5 ∨ (a.kind = 6 ∧ 0 < a.names.length) from .inr ⟨hk, h0⟩)
  clear ha hb hn hs hsub hn' hs' hsub' hbd hfa hfb hra hrb hna hnb h0
  go_enter Try.func21, Try.ntmps21
  simp only [tyCells]
  rw [hk, hk']
  clear hk hk'
  go_upto_region 21 with fail
  have h4 := boxes4 w #[.int .i64 6, .string a.pkg, .int .i64 a.major, .string a.mod, .string a.name, .slice na a.names.length nc, .slice sa a.subs.length sc] #[.int .i64 6, .string b.pkg, .int .i64 b.major, .string b.mod, .string b.name, .slice na' b.names.length nc', .slice sa' b.subs.length sc'] #[.int .i64 0, .string { data := #[] }, .int .i64 0, .string { data := #[] }, .string { data := #[] }, .slice none 0 0, .slice none 0 0] #[.int .i64 6, .string { data := #[] }, .int .i64 0, .string { data := #[] }, .string { data := #[] }, .slice none 0 0, .slice none 0 0] 25
  generalize ((((w.alloc (.cells #[.int .i64 6, .string a.pkg, .int .i64 a.major, .string a.mod, .string a.name, .slice na a.names.length nc, .slice sa a.subs.length sc] 25)).alloc (.cells #[.int .i64 6, .string b.pkg, .int .i64 b.major, .string b.mod, .string b.name, .slice na' b.names.length nc', .slice sa' b.subs.length sc'] 25)).alloc (.cells #[.int .i64 0, .string { data := #[] }, .int .i64 0, .string { data := #[] }, .string { data := #[] }, .slice none 0 0, .slice none 0 0] 25)).alloc (.cells #[.int .i64 6, .string { data := #[] }, .int .i64 0, .string { data := #[] }, .string { data := #[] }, .slice none 0 0, .slice none 0 0] 25)) = W at h4 ⊢
  obtain ⟨x0, x1, x2, x3, xs, xb⟩ := h4
  rw [← HK.out] at x0 x3
  rw [← HK'.out] at x1
  have hst := RMem.start (B := B) x0 x1 x2 x3 xs xb HF.out
  have HST := Lib.hid hst
  clear x0 x1 x2 x3 xs xb hst
  have hs0 : RSt [] (fun n => n ∈ a.names.take 0) (gA r a b up) := RSt.nil _ (by simp)
  have HS0 := Lib.hid hs0
  clear hs0
  go_wp2_with fail
  go_loopw [14] (fun i wr => ∃ (k : Nat) (L : List (ByteArray × Ty)) (co : Array Value), k ≤ a.names.length ∧ i = .int .i64 k ∧ RMem w wr a b na nc sa sc na' nc' sa' sc' B L co ∧ RSt L (fun n => n ∈ a.names.take k) (gA r a b up) ∧ AllA r a b up k ∧ L.length ≤ 2 * k) (fun i _ => a.names.length - (intOf i).toNat)
  case atStart => exact ⟨0, _, _, Nat.zero_le _, rfl, HST.out, HS0.out, all_zero, Nat.zero_le _⟩
  case round =>
    clear HST HS0
    obtain ⟨k, L, co, hk, rfl, hr, hrs, hall, hlen⟩ := hrel
    obtain ⟨naC, ncC, saC, scC, rfl⟩ := hr.form
    have HR := Lib.hid hr
    have HRS := Lib.hid hrs
    have HALL := Lib.hid hall
    have HLN := Lib.hid hlen
    have hacc := hr.below
    have hsz := hr.size
    have a5 := hr.boxa.cell 5
    have b5 := hr.boxb.cell 5
    simp [tyCells] at a5 b5
    clear hrs hall hlen
    by_cases hlt : k < a.names.length
    · have hlt' : k < a.subs.length := by have := HNA.out; omega
      have hk20 : k < 20 := by omega
      have hnk : ∃ b1 o1, na = some ⟨b1, o1, none⟩ ∧ wr.cell? ⟨b1, o1 + k, none⟩ = some (.string a.names[k]) ∧ b1 < B := by
        rcases HN.out with h | ⟨b1, o1, h1, h2, h3⟩
        · rw [h] at hlt; simp at hlt
        · exact ⟨b1, o1, h1, (hacc.cell (p := ⟨b1, o1 + k, none⟩) (by simp; omega)).trans (h3 k hlt), h2⟩
      obtain ⟨b1, o1, rfl, hcn, hb1⟩ := hnk
      have HA5 := Lib.hid a5
      have HB5 := Lib.hid b5
      have HCN := Lib.hid hcn
      have hltI : (k : Int) < (a.names.length : Int) := by omega
      have hltJ : (k : Int) < (a.subs.length : Int) := by omega
      have hBr : B ≤ wr.heap.size := by omega
      clear hr
      go_upto_region 24 with fail
      clear a5 b5 hcn
      go_cut [15] (fun s15 wx => s15 = .int .i64 (ofI b.names a.names[k]) ∧ Below wr.heap.size wr wx)
      case first =>
        refine wp_region_until [(7, fun w' => w'.cell? ⟨w.heap.size + 1, 5, none⟩ = some (.slice na' b.names.length nc')), (7, fun w' => w'.cell? ⟨w.heap.size, 5, none⟩ = some (.slice (some ⟨b1, o1, none⟩) a.names.length nc)), (7, fun w' => w'.cell? ⟨b1, o1 + k, none⟩ = some (.string a.names[k]))] (by kernel_rfl) (Until.cons (fun _ => HB5.out) (Until.cons (fun _ => HA5.out) (Until.cons (fun _ => HCN.out) Until.nil))) (fun hU => ?_)
        refine AnyU.take (i := 0) (v := ?_) rfl (by kernel_rfl) (by kernel_rfl) (by kernel_rfl) (fun _ _ _ h => h) (by kernel_rfl) (by assumption) (by rfl) ?_ (fun hU => ?_)
        rotate_left 1
        · (intro wq; go_simp; try with_reducible rfl)
        simp only [Act.put, List.getElem_toArray, List.getElem_cons_zero, List.getElem_cons_succ, List.setIfInBounds_toArray, List.set_cons_zero, List.set_cons_succ]
        refine AnyU.loadc (i := 1) (d := 7) [7] (Si := fun w' => w'.cell? ⟨w.heap.size + 1, 5, none⟩ = some (.slice na' b.names.length nc')) (v := ?_) rfl (by kernel_rfl) (by kernel_rfl) (by kernel_rfl) (fun _ _ _ h => h) (by kernel_rfl) (by assumption) (by kernel_rfl) rfl (by simp) (by rfl) ?_ (fun hU => ?_)
        rotate_left 1
        · (intro wq hq; go_simp; try with_reducible rfl)
        simp only [Act.put, List.getElem_toArray, List.getElem_cons_zero, List.getElem_cons_succ, List.setIfInBounds_toArray, List.set_cons_zero, List.set_cons_succ]
        refine AnyU.take (i := 2) (v := ?_) rfl (by kernel_rfl) (by kernel_rfl) (by kernel_rfl) (fun _ _ _ h => h) (by kernel_rfl) (by assumption) (by rfl) ?_ (fun hU => ?_)
        rotate_left 1
        · (intro wq; go_simp; try with_reducible rfl)
        simp only [Act.put, List.getElem_toArray, List.getElem_cons_zero, List.getElem_cons_succ, List.setIfInBounds_toArray, List.set_cons_zero, List.set_cons_succ]
        refine AnyU.loadc (i := 3) (d := 7) [5, 6, 7] (Si := fun w' => w'.cell? ⟨w.heap.size, 5, none⟩ = some (.slice (some ⟨b1, o1, none⟩) a.names.length nc)) (v := ?_) rfl (by kernel_rfl) (by kernel_rfl) (by kernel_rfl) (fun _ _ _ h => h) (by kernel_rfl) (by assumption) (by kernel_rfl) rfl (by simp) (by rfl) ?_ (fun hU => ?_)
        rotate_left 1
        · (intro wq hq; go_simp; try with_reducible rfl)
        simp only [Act.put, List.getElem_toArray, List.getElem_cons_zero, List.getElem_cons_succ, List.setIfInBounds_toArray, List.set_cons_zero, List.set_cons_succ]
        refine AnyU.take (i := 4) (v := ?_) rfl (by kernel_rfl) (by kernel_rfl) (by kernel_rfl) (fun _ _ _ h => h) (by kernel_rfl) (by assumption) (by rfl) ?_ (fun hU => ?_)
        rotate_left 1
        · (intro wq; go_simp; try with_reducible rfl)
        simp only [Act.put, List.getElem_toArray, List.getElem_cons_zero, List.getElem_cons_succ, List.setIfInBounds_toArray, List.set_cons_zero, List.set_cons_succ]
        refine AnyU.take (i := 5) (v := ?_) rfl (by kernel_rfl) (by kernel_rfl) (by kernel_rfl) (fun _ _ _ h => h) (by kernel_rfl) (by assumption) (by rfl) ?_ (fun hU => ?_)
        rotate_left 1
        · (intro wq; go_simp; try with_reducible rfl)
        simp only [Act.put, List.getElem_toArray, List.getElem_cons_zero, List.getElem_cons_succ, List.setIfInBounds_toArray, List.set_cons_zero, List.set_cons_succ]
        refine AnyU.loadc (i := 6) (d := 7) [7] (Si := fun w' => w'.cell? ⟨b1, o1 + k, none⟩ = some (.string a.names[k])) (v := ?_) rfl (by kernel_rfl) (by kernel_rfl) (by kernel_rfl) (fun _ _ _ h => h) (by kernel_rfl) (by assumption) (by kernel_rfl) rfl (by simp) (by rfl) ?_ (fun hU => ?_)
        rotate_left 1
        · (intro wq hq; go_simp; try with_reducible rfl)
        simp only [Act.put, List.getElem_toArray, List.getElem_cons_zero, List.getElem_cons_succ, List.setIfInBounds_toArray, List.set_cons_zero, List.set_cons_succ]
        refine AnyU.ready1 (i := 7) (by kernel_rfl) (AnyU.one rfl fun K hK => ?_)
        go_simp
        go_at_call 37
        refine (refOf_c na' nc' B b.names a.names[k] wr.drew (by have := HRB.out.len; omega) ((HN'.out.keep fun p hp => hacc.cell (p := p) (by omega)).keep fun _ _ => rfl)).mono ?_
        rintro e w5 ⟨rfl, rfl⟩
        refine hK.out _ _ (Until.off (by kernel_rfl)) (fun hU => ?_)
        clear hK K
        try simp only [Act.put, List.getElem_toArray, List.getElem_cons_zero, List.getElem_cons_succ, List.setIfInBounds_toArray, List.set_cons_zero, List.set_cons_succ]
        refine AnyU.take (i := 8) (v := ?_) rfl (by kernel_rfl) (by kernel_rfl) (by kernel_rfl) (fun _ _ _ h => h) (by kernel_rfl) (by assumption) (by rfl) ?_ (fun hU => ?_)
        rotate_left 1
        · (intro wq; go_simp; try with_reducible rfl)
        simp only [Act.put, List.getElem_toArray, List.getElem_cons_zero, List.getElem_cons_succ, List.setIfInBounds_toArray, List.set_cons_zero, List.set_cons_succ]
        refine AnyU.done (by kernel_rfl) ?_
        clear hU
        go_wp2_with fail
        go_meet
        exact ⟨rfl, (Below.refl _ _).drew⟩
      case rest =>
        obtain ⟨rfl, hbc⟩ := hcut
        have HR2 := Lib.hid (HR.out.under hB hbc)
        have hacc2 := HR2.out.below
        have hsz2 := HR2.out.size
        have HCN2 := Lib.hid ((hbc.cell (p := ⟨b1, o1 + k, none⟩) (by simp; omega)).trans HCN.out)
        have a5 := HR2.out.boxa.cell 5
        have a6 := HR2.out.boxa.cell 6
        have b6 := HR2.out.boxb.cell 6
        simp [tyCells] at a5 a6 b6
        have HA5' := Lib.hid a5
        have HA6' := Lib.hid a6
        have HB6' := Lib.hid b6
        clear a5 a6 b6 HA5 HB5 HCN
        cases hmb : memB a.names[k] b.names
        case false =>
          have HMB := Lib.hid hmb
          rw [ofI_miss hmb]
          clear hmb
          cases up
          case false =>
            have hst := Lib.hid (HRS.out.skip (s := a.names[k]) ((gA_miss HRA.out hlt hlt' HMB.out).trans rfl) (take_mem_succ hlt))
            go_wp2_with fail
            first
              | exact ⟨⟨k + 1, _, _, by omega, by go_num, HR2.out, hst.out, all_none, by have := HLN.out; omega⟩, by simp [intOf]; omega⟩
              | (go_roundw
                 case rel => exact ⟨k + 1, _, _, by omega, by go_num, HR2.out, hst.out, all_none, by have := HLN.out; omega⟩
                 case measure => simp [intOf]; omega)
          case true =>
            have hT2 := (HU.out k hlt').under (HR2.out.below.mono hB)
            obtain ⟨b2, o2, na2, nc2, sa2, sc2, rfl, hbb2, hfk2, c0, c1, c2, c3, c4, c5, c6⟩ := TyC.elem (HS.out.keep fun p hp => HR2.out.below.cell (p := p) (by omega)) hlt' hT2
            rw [hfk2] at hT2
            have HT2 := Lib.hid hT2
            have HC2 := Lib.hid (And.intro c0 (And.intro c1 (And.intro c2 (And.intro c3 (And.intro c4 (And.intro c5 c6))))))
            clear hT2 hfk2 c0 c1 c2 c3 c4 c5 c6
            have ob := HR2.out.out
            have o0 := ob.cell 0
            have o1 := ob.cell 1
            have o2 := ob.cell 2
            have o3 := ob.cell 3
            have o4 := ob.cell 4
            have o5 := ob.cell 5
            have o6 := ob.cell 6
            simp at o0 o1 o2 o3 o4 o5 o6
            have HOUT := Lib.hid (And.intro o0 (And.intro o1 (And.intro o2 (And.intro o3 (And.intro o4 (And.intro o5 o6))))))
            clear ob o0 o1 o2 o3 o4 o5 o6
            have hg := gA_miss (r := r) (al := true) HRA.out hlt hlt' HMB.out
            rw [if_pos rfl] at hg
            have HST := Lib.hid (HRS.out.put (take_fresh HRA.out.rise hlt) hg (take_mem_succ hlt))
            have HALL2 := Lib.hid (all_succ hlt HALL.out fun _ => by rw [hg]; rfl)
            clear hg
            go_upto_region 27 with fail
            refine wp_region_until [(11, fun w' => w'.cell? ⟨w.heap.size + 1 + 1 + 1, 0, none⟩ = some (.int .i64 a.kind) ∧ w'.cell? ⟨w.heap.size + 1 + 1 + 1, 1, none⟩ = some (.string { data := #[] }) ∧ w'.cell? ⟨w.heap.size + 1 + 1 + 1, 2, none⟩ = some (.int .i64 0) ∧ w'.cell? ⟨w.heap.size + 1 + 1 + 1, 3, none⟩ = some (.string { data := #[] }) ∧ w'.cell? ⟨w.heap.size + 1 + 1 + 1, 4, none⟩ = some (.string { data := #[] }) ∧ w'.cell? ⟨w.heap.size + 1 + 1 + 1, 5, none⟩ = some (.slice naC L.length ncC) ∧ w'.cell? ⟨w.heap.size + 1 + 1 + 1, 6, none⟩ = some (.slice saC L.length scC)), (11, fun w' => w'.cell? ⟨w.heap.size, 5, none⟩ = some (.slice (some ⟨b1, o1, none⟩) a.names.length nc)), (11, fun w' => w'.cell? ⟨b1, o1 + k, none⟩ = some (.string a.names[k])), (11, fun w' => w'.cell? ⟨w.heap.size, 6, none⟩ = some (.slice (some ⟨b2, o2, none⟩) a.subs.length sc)), (11, fun w' => w'.cell? ⟨b2, o2 + k * 7, none⟩ = some (.int .i64 a.subs[k].kind) ∧ w'.cell? ⟨b2, o2 + k * 7 + 1, none⟩ = some (.string a.subs[k].pkg) ∧ w'.cell? ⟨b2, o2 + k * 7 + 2, none⟩ = some (.int .i64 a.subs[k].major) ∧ w'.cell? ⟨b2, o2 + k * 7 + 3, none⟩ = some (.string a.subs[k].mod) ∧ w'.cell? ⟨b2, o2 + k * 7 + 4, none⟩ = some (.string a.subs[k].name) ∧ w'.cell? ⟨b2, o2 + k * 7 + 5, none⟩ = some (.slice na2 a.subs[k].names.length nc2) ∧ w'.cell? ⟨b2, o2 + k * 7 + 6, none⟩ = some (.slice sa2 a.subs[k].subs.length sc2))] (by kernel_rfl) (Until.cons (fun _ => HOUT.out) (Until.cons (fun _ => HA5'.out) (Until.cons (fun _ => HCN2.out) (Until.cons (fun _ => HA6'.out) (Until.cons (fun _ => HC2.out) Until.nil))))) (fun hU => ?_)
            refine AnyU.loadc (i := 0) (d := 11) [11] (Si := fun w' => w'.cell? ⟨w.heap.size + 1 + 1 + 1, 0, none⟩ = some (.int .i64 a.kind) ∧ w'.cell? ⟨w.heap.size + 1 + 1 + 1, 1, none⟩ = some (.string { data := #[] }) ∧ w'.cell? ⟨w.heap.size + 1 + 1 + 1, 2, none⟩ = some (.int .i64 0) ∧ w'.cell? ⟨w.heap.size + 1 + 1 + 1, 3, none⟩ = some (.string { data := #[] }) ∧ w'.cell? ⟨w.heap.size + 1 + 1 + 1, 4, none⟩ = some (.string { data := #[] }) ∧ w'.cell? ⟨w.heap.size + 1 + 1 + 1, 5, none⟩ = some (.slice naC L.length ncC) ∧ w'.cell? ⟨w.heap.size + 1 + 1 + 1, 6, none⟩ = some (.slice saC L.length scC)) (v := ?_) rfl (by kernel_rfl) (by kernel_rfl) (by kernel_rfl) (fun _ _ _ h => h) (by kernel_rfl) (by assumption) (by kernel_rfl) rfl (by simp) (by rfl) ?_ (fun hU => ?_)
            rotate_left 1
            · (intro wq hq; obtain ⟨u0, u1, u2, u3, u4, u5, u6⟩ := hq; go_simp; try with_reducible rfl)
            simp only [Act.put, List.getElem_toArray, List.getElem_cons_zero, List.getElem_cons_succ, List.setIfInBounds_toArray, List.set_cons_zero, List.set_cons_succ]
            refine AnyU.take (i := 1) (v := ?_) rfl (by kernel_rfl) (by kernel_rfl) (by kernel_rfl) (fun _ _ _ h => h) (by kernel_rfl) (by assumption) (by rfl) ?_ (fun hU => ?_)
            rotate_left 1
            · (intro wq; go_simp; try with_reducible rfl)
            simp only [Act.put, List.getElem_toArray, List.getElem_cons_zero, List.getElem_cons_succ, List.setIfInBounds_toArray, List.set_cons_zero, List.set_cons_succ]
            refine AnyU.loadc (i := 2) (d := 11) [4, 5, 11] (Si := fun w' => w'.cell? ⟨w.heap.size, 5, none⟩ = some (.slice (some ⟨b1, o1, none⟩) a.names.length nc)) (v := ?_) rfl (by kernel_rfl) (by kernel_rfl) (by kernel_rfl) (fun _ _ _ h => h) (by kernel_rfl) (by assumption) (by kernel_rfl) rfl (by simp) (by rfl) ?_ (fun hU => ?_)
            rotate_left 1
            · (intro wq hq; go_simp; try with_reducible rfl)
            simp only [Act.put, List.getElem_toArray, List.getElem_cons_zero, List.getElem_cons_succ, List.setIfInBounds_toArray, List.set_cons_zero, List.set_cons_succ]
            refine AnyU.take (i := 3) (v := ?_) rfl (by kernel_rfl) (by kernel_rfl) (by kernel_rfl) (fun _ _ _ h => h) (by kernel_rfl) (by assumption) (by rfl) ?_ (fun hU => ?_)
            rotate_left 1
            · (intro wq; go_simp; try with_reducible rfl)
            simp only [Act.put, List.getElem_toArray, List.getElem_cons_zero, List.getElem_cons_succ, List.setIfInBounds_toArray, List.set_cons_zero, List.set_cons_succ]
            refine AnyU.take (i := 4) (v := ?_) rfl (by kernel_rfl) (by kernel_rfl) (by kernel_rfl) (fun _ _ _ h => h) (by kernel_rfl) (by assumption) (by rfl) ?_ (fun hU => ?_)
            rotate_left 1
            · (intro wq; go_simp; try with_reducible rfl)
            simp only [Act.put, List.getElem_toArray, List.getElem_cons_zero, List.getElem_cons_succ, List.setIfInBounds_toArray, List.set_cons_zero, List.set_cons_succ]
            refine AnyU.loadc (i := 5) (d := 11) [11] (Si := fun w' => w'.cell? ⟨b1, o1 + k, none⟩ = some (.string a.names[k])) (v := ?_) rfl (by kernel_rfl) (by kernel_rfl) (by kernel_rfl) (fun _ _ _ h => h) (by kernel_rfl) (by assumption) (by kernel_rfl) rfl (by simp) (by rfl) ?_ (fun hU => ?_)
            rotate_left 1
            · (intro wq hq; go_simp; try with_reducible rfl)
            simp only [Act.put, List.getElem_toArray, List.getElem_cons_zero, List.getElem_cons_succ, List.setIfInBounds_toArray, List.set_cons_zero, List.set_cons_succ]
            refine AnyU.take (i := 6) (v := ?_) rfl (by kernel_rfl) (by kernel_rfl) (by kernel_rfl) (fun _ _ _ h => h) (by kernel_rfl) (by assumption) (by rfl) ?_ (fun hU => ?_)
            rotate_left 1
            · (intro wq; go_simp; try with_reducible rfl)
            simp only [Act.put, List.getElem_toArray, List.getElem_cons_zero, List.getElem_cons_succ, List.setIfInBounds_toArray, List.set_cons_zero, List.set_cons_succ]
            refine AnyU.loadc (i := 7) (d := 11) [9, 10, 11] (Si := fun w' => w'.cell? ⟨w.heap.size, 6, none⟩ = some (.slice (some ⟨b2, o2, none⟩) a.subs.length sc)) (v := ?_) rfl (by kernel_rfl) (by kernel_rfl) (by kernel_rfl) (fun _ _ _ h => h) (by kernel_rfl) (by assumption) (by kernel_rfl) rfl (by simp) (by rfl) ?_ (fun hU => ?_)
            rotate_left 1
            · (intro wq hq; go_simp; try with_reducible rfl)
            simp only [Act.put, List.getElem_toArray, List.getElem_cons_zero, List.getElem_cons_succ, List.setIfInBounds_toArray, List.set_cons_zero, List.set_cons_succ]
            refine AnyU.take (i := 8) (v := ?_) rfl (by kernel_rfl) (by kernel_rfl) (by kernel_rfl) (fun _ _ _ h => h) (by kernel_rfl) (by assumption) (by rfl) ?_ (fun hU => ?_)
            rotate_left 1
            · (intro wq; go_simp; try with_reducible rfl)
            simp only [Act.put, List.getElem_toArray, List.getElem_cons_zero, List.getElem_cons_succ, List.setIfInBounds_toArray, List.set_cons_zero, List.set_cons_succ]
            refine AnyU.take (i := 9) (v := ?_) rfl (by kernel_rfl) (by kernel_rfl) (by kernel_rfl) (fun _ _ _ h => h) (by kernel_rfl) (by assumption) (by rfl) ?_ (fun hU => ?_)
            rotate_left 1
            · (intro wq; go_simp; try with_reducible rfl)
            simp only [Act.put, List.getElem_toArray, List.getElem_cons_zero, List.getElem_cons_succ, List.setIfInBounds_toArray, List.set_cons_zero, List.set_cons_succ]
            refine AnyU.loadc (i := 10) (d := 11) [11] (Si := fun w' => w'.cell? ⟨b2, o2 + k * 7, none⟩ = some (.int .i64 a.subs[k].kind) ∧ w'.cell? ⟨b2, o2 + k * 7 + 1, none⟩ = some (.string a.subs[k].pkg) ∧ w'.cell? ⟨b2, o2 + k * 7 + 2, none⟩ = some (.int .i64 a.subs[k].major) ∧ w'.cell? ⟨b2, o2 + k * 7 + 3, none⟩ = some (.string a.subs[k].mod) ∧ w'.cell? ⟨b2, o2 + k * 7 + 4, none⟩ = some (.string a.subs[k].name) ∧ w'.cell? ⟨b2, o2 + k * 7 + 5, none⟩ = some (.slice na2 a.subs[k].names.length nc2) ∧ w'.cell? ⟨b2, o2 + k * 7 + 6, none⟩ = some (.slice sa2 a.subs[k].subs.length sc2)) (v := ?_) rfl (by kernel_rfl) (by kernel_rfl) (by kernel_rfl) (fun _ _ _ h => h) (by kernel_rfl) (by assumption) (by kernel_rfl) rfl (by simp) (by rfl) ?_ (fun hU => ?_)
            rotate_left 1
            · (intro wq hq; obtain ⟨u0, u1, u2, u3, u4, u5, u6⟩ := hq; go_simp; try with_reducible rfl)
            simp only [Act.put, List.getElem_toArray, List.getElem_cons_zero, List.getElem_cons_succ, List.setIfInBounds_toArray, List.set_cons_zero, List.set_cons_succ]
            refine AnyU.ready1 (i := 11) (by kernel_rfl) (AnyU.one rfl fun K hK => ?_)
            go_simp
            go_at_call 40
            refine (HR2.out.putc hB HF.out (by have := HLN.out; omega) (HF.out.each _ (List.getElem_mem hlt)) (HT2.out.toM.mono fun b hb => .inl hb)).mono ?_
            rintro e w5 ⟨na4, nc4, sa4, sc4, rfl, hb5, hr5⟩
            have ob := HR2.out.out.under hb5 HR2.out.out.lt
            have z0 := ob.cell 0
            have zf0 := ob.free 0
            have z1 := ob.cell 1
            have zf1 := ob.free 1
            have z2 := ob.cell 2
            have zf2 := ob.free 2
            have z3 := ob.cell 3
            have zf3 := ob.free 3
            have z4 := ob.cell 4
            have zf4 := ob.free 4
            have z5 := ob.cell 5
            have zf5 := ob.free 5
            have z6 := ob.cell 6
            have zf6 := ob.free 6
            simp at z0 z1 z2 z3 z4 z5 z6
            have HR5 := Lib.hid hr5
            clear ob hr5 hb5
            refine hK.out _ _ (Until.off (by kernel_rfl)) (fun hU => ?_)
            clear hK K
            try simp only [Act.put, List.getElem_toArray, List.getElem_cons_zero, List.getElem_cons_succ, List.setIfInBounds_toArray, List.set_cons_zero, List.set_cons_succ]
            refine AnyU.ready1 (i := 12) (by kernel_rfl) (AnyU.one rfl fun K hK => ?_)
            go_simp
            refine hK.out _ _ (Until.off (by kernel_rfl)) (fun hU => ?_)
            clear hK K
            try simp only [Act.put, List.getElem_toArray, List.getElem_cons_zero, List.getElem_cons_succ, List.setIfInBounds_toArray, List.set_cons_zero, List.set_cons_succ]
            refine AnyU.done (by kernel_rfl) ?_
            have hr6 := HR5.out
            generalize (((((((w5.setCell ⟨w.heap.size + 1 + 1 + 1, 0, none⟩ (.int .i64 a.kind)).setCell ⟨w.heap.size + 1 + 1 + 1, 1, none⟩ (.string { data := #[] })).setCell ⟨w.heap.size + 1 + 1 + 1, 2, none⟩ (.int .i64 0)).setCell ⟨w.heap.size + 1 + 1 + 1, 3, none⟩ (.string { data := #[] })).setCell ⟨w.heap.size + 1 + 1 + 1, 4, none⟩ (.string { data := #[] })).setCell ⟨w.heap.size + 1 + 1 + 1, 5, none⟩ (.slice na4 (putF a.names[k] a.subs[k] L).length nc4)).setCell ⟨w.heap.size + 1 + 1 + 1, 6, none⟩ (.slice sa4 (putF a.names[k] a.subs[k] L).length sc4)) = Wz at hr6 ⊢
            have HR6 := Lib.hid hr6
            clear hU hr6 HR5 z0 z1 z2 z3 z4 z5 z6 zf0 zf1 zf2 zf3 zf4 zf5 zf6
            go_wp2_with fail
            first
              | exact ⟨⟨k + 1, _, _, by omega, by go_num, HR6.out, HST.out, HALL2.out, putF_two HLN.out⟩, by simp [intOf]; omega⟩
              | (go_roundw
                 case rel => exact ⟨k + 1, _, _, by omega, by go_num, HR6.out, HST.out, HALL2.out, putF_two HLN.out⟩
                 case measure => simp [intOf]; omega)
        case true =>
          have HMB := Lib.hid hmb
          rw [ofI_hit hmb]
          have hj' : firstOf b.names a.names[k] < b.names.length := firstOf_lt hmb
          generalize hj : firstOf b.names a.names[k] = j at hj' ⊢
          have HJ := Lib.hid hj
          have hjs : j < b.subs.length := by have := HNB.out; omega
          have hj20 : j < 20 := by omega
          have HG := Lib.hid (gA_hit (r := r) (al := up) HRA.out HRB.out hlt hlt' hmb hj hjs)
          clear hmb hj
          have hT2 := (HU.out k hlt').under (HR2.out.below.mono hB)
          obtain ⟨b2, o2, na2, nc2, sa2, sc2, rfl, hbb2, hfk2, c0, c1, c2, c3, c4, c5, c6⟩ := TyC.elem (HS.out.keep fun p hp => HR2.out.below.cell (p := p) (by omega)) hlt' hT2
          rw [hfk2] at hT2
          have HT2 := Lib.hid hT2
          have HC2 := Lib.hid (And.intro c0 (And.intro c1 (And.intro c2 (And.intro c3 (And.intro c4 (And.intro c5 c6))))))
          clear hT2 hfk2 c0 c1 c2 c3 c4 c5 c6
          have hT3 := (HU'.out j hjs).under (HR2.out.below.mono hB)
          obtain ⟨b3, o3, na3, nc3, sa3, sc3, rfl, hbb3, hfk3, c0, c1, c2, c3, c4, c5, c6⟩ := TyC.elem (HS'.out.keep fun p hp => HR2.out.below.cell (p := p) (by omega)) hjs hT3
          rw [hfk3] at hT3
          have HT3 := Lib.hid hT3
          have HC3 := Lib.hid (And.intro c0 (And.intro c1 (And.intro c2 (And.intro c3 (And.intro c4 (And.intro c5 c6))))))
          clear hT3 hfk3 c0 c1 c2 c3 c4 c5 c6
          have hjI : ¬ ((j : Int) < 0) := by omega
          have hjJ : (j : Int) < (b.subs.length : Int) := by omega
          have hw2 : B ≤ wc.heap.size := by omega
          go_upto_region 28 with fail
          go_cut [16, 17] (fun s16 s17 wx => ∃ (tb : Nat) (t : Ty) (na6 : Option Addr) (nc6 : Nat) (sa6 : Option Addr) (sc6 : Nat), s16 = .pointer (some ⟨tb, 0, none⟩) ∧ s17 = .bool (r a.subs[k] b.subs[j]).isSome ∧ CutRel wc wx B t (tyCells t na6 nc6 sa6 sc6) tb ∧ (∀ x, r a.subs[k] b.subs[j] = some x → t = x))
          case first =>
            refine wp_region_until [(11, fun w' => w'.cell? ⟨w.heap.size, 6, none⟩ = some (.slice (some ⟨b2, o2, none⟩) a.subs.length sc)), (11, fun w' => w'.cell? ⟨w.heap.size + 1, 6, none⟩ = some (.slice (some ⟨b3, o3, none⟩) b.subs.length sc')), (11, fun w' => w'.cell? ⟨b2, o2 + k * 7, none⟩ = some (.int .i64 a.subs[k].kind) ∧ w'.cell? ⟨b2, o2 + k * 7 + 1, none⟩ = some (.string a.subs[k].pkg) ∧ w'.cell? ⟨b2, o2 + k * 7 + 2, none⟩ = some (.int .i64 a.subs[k].major) ∧ w'.cell? ⟨b2, o2 + k * 7 + 3, none⟩ = some (.string a.subs[k].mod) ∧ w'.cell? ⟨b2, o2 + k * 7 + 4, none⟩ = some (.string a.subs[k].name) ∧ w'.cell? ⟨b2, o2 + k * 7 + 5, none⟩ = some (.slice na2 a.subs[k].names.length nc2) ∧ w'.cell? ⟨b2, o2 + k * 7 + 6, none⟩ = some (.slice sa2 a.subs[k].subs.length sc2)), (11, fun w' => w'.cell? ⟨b3, o3 + j * 7, none⟩ = some (.int .i64 b.subs[j].kind) ∧ w'.cell? ⟨b3, o3 + j * 7 + 1, none⟩ = some (.string b.subs[j].pkg) ∧ w'.cell? ⟨b3, o3 + j * 7 + 2, none⟩ = some (.int .i64 b.subs[j].major) ∧ w'.cell? ⟨b3, o3 + j * 7 + 3, none⟩ = some (.string b.subs[j].mod) ∧ w'.cell? ⟨b3, o3 + j * 7 + 4, none⟩ = some (.string b.subs[j].name) ∧ w'.cell? ⟨b3, o3 + j * 7 + 5, none⟩ = some (.slice na3 b.subs[j].names.length nc3) ∧ w'.cell? ⟨b3, o3 + j * 7 + 6, none⟩ = some (.slice sa3 b.subs[j].subs.length sc3))] (by kernel_rfl) (Until.cons (fun _ => HA6'.out) (Until.cons (fun _ => HB6'.out) (Until.cons (fun _ => HC2.out) (Until.cons (fun _ => HC3.out) Until.nil)))) (fun hU => ?_)
            refine AnyU.take (i := 0) (v := ?_) rfl (by kernel_rfl) (by kernel_rfl) (by kernel_rfl) (fun _ _ _ h => h) (by kernel_rfl) (by assumption) (by rfl) ?_ (fun hU => ?_)
            rotate_left 1
            · (intro wq; go_simp; try with_reducible rfl)
            simp only [Act.put, List.getElem_toArray, List.getElem_cons_zero, List.getElem_cons_succ, List.setIfInBounds_toArray, List.set_cons_zero, List.set_cons_succ]
            refine AnyU.loadc (i := 1) (d := 11) [3, 4, 11] (Si := fun w' => w'.cell? ⟨w.heap.size, 6, none⟩ = some (.slice (some ⟨b2, o2, none⟩) a.subs.length sc)) (v := ?_) rfl (by kernel_rfl) (by kernel_rfl) (by kernel_rfl) (fun _ _ _ h => h) (by kernel_rfl) (by assumption) (by kernel_rfl) rfl (by simp) (by rfl) ?_ (fun hU => ?_)
            rotate_left 1
            · (intro wq hq; go_simp; try with_reducible rfl)
            simp only [Act.put, List.getElem_toArray, List.getElem_cons_zero, List.getElem_cons_succ, List.setIfInBounds_toArray, List.set_cons_zero, List.set_cons_succ]
            refine AnyU.take (i := 2) (v := ?_) rfl (by kernel_rfl) (by kernel_rfl) (by kernel_rfl) (fun _ _ _ h => h) (by kernel_rfl) (by assumption) (by rfl) ?_ (fun hU => ?_)
            rotate_left 1
            · (intro wq; go_simp; try with_reducible rfl)
            simp only [Act.put, List.getElem_toArray, List.getElem_cons_zero, List.getElem_cons_succ, List.setIfInBounds_toArray, List.set_cons_zero, List.set_cons_succ]
            refine AnyU.take (i := 3) (v := ?_) rfl (by kernel_rfl) (by kernel_rfl) (by kernel_rfl) (fun _ _ _ h => h) (by kernel_rfl) (by assumption) (by rfl) ?_ (fun hU => ?_)
            rotate_left 1
            · (intro wq; go_simp; try with_reducible rfl)
            simp only [Act.put, List.getElem_toArray, List.getElem_cons_zero, List.getElem_cons_succ, List.setIfInBounds_toArray, List.set_cons_zero, List.set_cons_succ]
            refine AnyU.loadc (i := 4) (d := 11) [11] (Si := fun w' => w'.cell? ⟨b2, o2 + k * 7, none⟩ = some (.int .i64 a.subs[k].kind) ∧ w'.cell? ⟨b2, o2 + k * 7 + 1, none⟩ = some (.string a.subs[k].pkg) ∧ w'.cell? ⟨b2, o2 + k * 7 + 2, none⟩ = some (.int .i64 a.subs[k].major) ∧ w'.cell? ⟨b2, o2 + k * 7 + 3, none⟩ = some (.string a.subs[k].mod) ∧ w'.cell? ⟨b2, o2 + k * 7 + 4, none⟩ = some (.string a.subs[k].name) ∧ w'.cell? ⟨b2, o2 + k * 7 + 5, none⟩ = some (.slice na2 a.subs[k].names.length nc2) ∧ w'.cell? ⟨b2, o2 + k * 7 + 6, none⟩ = some (.slice sa2 a.subs[k].subs.length sc2)) (v := ?_) rfl (by kernel_rfl) (by kernel_rfl) (by kernel_rfl) (fun _ _ _ h => h) (by kernel_rfl) (by assumption) (by kernel_rfl) rfl (by simp) (by rfl) ?_ (fun hU => ?_)
            rotate_left 1
            · (intro wq hq; obtain ⟨u0, u1, u2, u3, u4, u5, u6⟩ := hq; go_simp; try with_reducible rfl)
            simp only [Act.put, List.getElem_toArray, List.getElem_cons_zero, List.getElem_cons_succ, List.setIfInBounds_toArray, List.set_cons_zero, List.set_cons_succ]
            refine AnyU.take (i := 5) (v := ?_) rfl (by kernel_rfl) (by kernel_rfl) (by kernel_rfl) (fun _ _ _ h => h) (by kernel_rfl) (by assumption) (by rfl) ?_ (fun hU => ?_)
            rotate_left 1
            · (intro wq; go_simp; try with_reducible rfl)
            simp only [Act.put, List.getElem_toArray, List.getElem_cons_zero, List.getElem_cons_succ, List.setIfInBounds_toArray, List.set_cons_zero, List.set_cons_succ]
            refine AnyU.loadc (i := 6) (d := 11) [8, 9, 11] (Si := fun w' => w'.cell? ⟨w.heap.size + 1, 6, none⟩ = some (.slice (some ⟨b3, o3, none⟩) b.subs.length sc')) (v := ?_) rfl (by kernel_rfl) (by kernel_rfl) (by kernel_rfl) (fun _ _ _ h => h) (by kernel_rfl) (by assumption) (by kernel_rfl) rfl (by simp) (by rfl) ?_ (fun hU => ?_)
            rotate_left 1
            · (intro wq hq; go_simp; try with_reducible rfl)
            simp only [Act.put, List.getElem_toArray, List.getElem_cons_zero, List.getElem_cons_succ, List.setIfInBounds_toArray, List.set_cons_zero, List.set_cons_succ]
            refine AnyU.take (i := 7) (v := ?_) rfl (by kernel_rfl) (by kernel_rfl) (by kernel_rfl) (fun _ _ _ h => h) (by kernel_rfl) (by assumption) (by rfl) ?_ (fun hU => ?_)
            rotate_left 1
            · (intro wq; go_simp; try with_reducible rfl)
            simp only [Act.put, List.getElem_toArray, List.getElem_cons_zero, List.getElem_cons_succ, List.setIfInBounds_toArray, List.set_cons_zero, List.set_cons_succ]
            refine AnyU.take (i := 8) (v := ?_) rfl (by kernel_rfl) (by kernel_rfl) (by kernel_rfl) (fun _ _ _ h => h) (by kernel_rfl) (by assumption) (by rfl) ?_ (fun hU => ?_)
            rotate_left 1
            · (intro wq; go_simp; try with_reducible rfl)
            simp only [Act.put, List.getElem_toArray, List.getElem_cons_zero, List.getElem_cons_succ, List.setIfInBounds_toArray, List.set_cons_zero, List.set_cons_succ]
            refine AnyU.loadc (i := 9) (d := 11) [11] (Si := fun w' => w'.cell? ⟨b3, o3 + j * 7, none⟩ = some (.int .i64 b.subs[j].kind) ∧ w'.cell? ⟨b3, o3 + j * 7 + 1, none⟩ = some (.string b.subs[j].pkg) ∧ w'.cell? ⟨b3, o3 + j * 7 + 2, none⟩ = some (.int .i64 b.subs[j].major) ∧ w'.cell? ⟨b3, o3 + j * 7 + 3, none⟩ = some (.string b.subs[j].mod) ∧ w'.cell? ⟨b3, o3 + j * 7 + 4, none⟩ = some (.string b.subs[j].name) ∧ w'.cell? ⟨b3, o3 + j * 7 + 5, none⟩ = some (.slice na3 b.subs[j].names.length nc3) ∧ w'.cell? ⟨b3, o3 + j * 7 + 6, none⟩ = some (.slice sa3 b.subs[j].subs.length sc3)) (v := ?_) rfl (by kernel_rfl) (by kernel_rfl) (by kernel_rfl) (fun _ _ _ h => h) (by kernel_rfl) (by assumption) (by kernel_rfl) rfl (by simp) (by rfl) ?_ (fun hU => ?_)
            rotate_left 1
            · (intro wq hq; obtain ⟨u0, u1, u2, u3, u4, u5, u6⟩ := hq; go_simp; try with_reducible rfl)
            simp only [Act.put, List.getElem_toArray, List.getElem_cons_zero, List.getElem_cons_succ, List.setIfInBounds_toArray, List.set_cons_zero, List.set_cons_succ]
            refine AnyU.take (i := 10) (v := ?_) rfl (by kernel_rfl) (by kernel_rfl) (by kernel_rfl) (fun _ _ _ h => h) (by kernel_rfl) (by assumption) (by rfl) ?_ (fun hU => ?_)
            rotate_left 1
            · (intro wq; go_simp; try with_reducible rfl)
            simp only [Act.put, List.getElem_toArray, List.getElem_cons_zero, List.getElem_cons_succ, List.setIfInBounds_toArray, List.set_cons_zero, List.set_cons_succ]
            refine AnyU.ready2 (i := 11) (j := 15) (by kernel_rfl) (AnyU.one rfl fun K hK => ?_) (AnyU.one rfl fun K hK => ?_)
            · go_simp
              go_at_call 21
              refine (HI.out a.subs[k] b.subs[j] (List.getElem_mem hlt') (List.getElem_mem hjs) _ _ B wc.drew (HT2.out.keep fun _ _ => rfl) (HT3.out.keep fun _ _ => rfl) hw2).mono ?_
              rintro e w3 ⟨⟨t, cr, rfl, hrt, htm⟩, hb3⟩
              obtain ⟨na6, nc6, sa6, sc6, f6, rfl, -⟩ := htm.inv
              simp only [tyCells]
              have HAW := Lib.hid (show Below wc.heap.size wc w3 from (Below.refl _ _).drew.trans hb3)
              have HTM := Lib.hid htm
              have HRT := Lib.hid hrt
              clear htm hb3 hrt
              refine hK.out _ _ (Until.off (by kernel_rfl)) (fun hU => ?_)
              clear hK K
              try simp only [Act.put, List.getElem_toArray, List.getElem_cons_zero, List.getElem_cons_succ, List.setIfInBounds_toArray, List.set_cons_zero, List.set_cons_succ]
              refine AnyU.take (i := 12) (v := ?_) rfl (by kernel_rfl) (by kernel_rfl) (by kernel_rfl) (fun _ _ _ h => h) (by kernel_rfl) (by assumption) (by rfl) ?_ (fun hU => ?_)
              rotate_left 1
              · (intro wq; go_simp; try with_reducible rfl)
              simp only [Act.put, List.getElem_toArray, List.getElem_cons_zero, List.getElem_cons_succ, List.setIfInBounds_toArray, List.set_cons_zero, List.set_cons_succ]
              refine AnyU.take (i := 13) (v := ?_) rfl (by kernel_rfl) (by kernel_rfl) (by kernel_rfl) (fun _ _ _ h => h) (by kernel_rfl) (by assumption) (by rfl) ?_ (fun hU => ?_)
              rotate_left 1
              · (intro wq; go_simp; try with_reducible rfl)
              simp only [Act.put, List.getElem_toArray, List.getElem_cons_zero, List.getElem_cons_succ, List.setIfInBounds_toArray, List.set_cons_zero, List.set_cons_succ]
              refine AnyU.take (i := 14) (v := ?_) rfl (by kernel_rfl) (by kernel_rfl) (by kernel_rfl) (fun _ _ _ h => h) (by kernel_rfl) (by assumption) (by rfl) ?_ (fun hU => ?_)
              rotate_left 1
              · (intro wq; go_simp; try with_reducible rfl)
              simp only [Act.put, List.getElem_toArray, List.getElem_cons_zero, List.getElem_cons_succ, List.setIfInBounds_toArray, List.set_cons_zero, List.set_cons_succ]
              refine AnyU.ready1 (i := 15) (by kernel_rfl) (AnyU.one rfl fun K hK => ?_)
              go_simp
              refine hK.out _ _ (Until.off (by kernel_rfl)) (fun hU => ?_)
              clear hK K
              try simp only [Act.put, List.getElem_toArray, List.getElem_cons_zero, List.getElem_cons_succ, List.setIfInBounds_toArray, List.set_cons_zero, List.set_cons_succ]
              refine AnyU.ready1 (i := 16) (by kernel_rfl) (AnyU.one rfl fun K hK => ?_)
              go_simp
              refine hK.out _ _ (Until.off (by kernel_rfl)) (fun hU => ?_)
              clear hK K
              try simp only [Act.put, List.getElem_toArray, List.getElem_cons_zero, List.getElem_cons_succ, List.setIfInBounds_toArray, List.set_cons_zero, List.set_cons_succ]
              refine AnyU.take (i := 17) (v := ?_) rfl (by kernel_rfl) (by kernel_rfl) (by kernel_rfl) (fun _ _ _ h => h) (by kernel_rfl) (by assumption) (by rfl) ?_ (fun hU => ?_)
              rotate_left 1
              · (intro wq; go_simp; try with_reducible rfl)
              simp only [Act.put, List.getElem_toArray, List.getElem_cons_zero, List.getElem_cons_succ, List.setIfInBounds_toArray, List.set_cons_zero, List.set_cons_succ]
              refine AnyU.done (by kernel_rfl) ?_
              have hq := CutRel.one (W2 := wc) (X := wc.drew) hw2 (Below.refl _ _) HAW.out (Nat.le_refl _) HTM.out
              simp only [tyCells] at hq
              generalize (w3.alloc (.cells #[.int .i64 t.kind, .string t.pkg, .int .i64 t.major, .string t.mod, .string t.name, .slice na6 t.names.length nc6, .slice sa6 t.subs.length sc6] 25)) = Wz at hq ⊢
              have HQ := Lib.hid hq
              clear hq hU
              go_wp2_with fail
              go_meet
              exact ⟨_, _, _, _, _, _, rfl, rfl, HQ.out, HRT.out⟩
            · go_simp
              have hX2 : wc.heap.size + 1 ≤ (wc.alloc (.cells #[.int .i64 0, .string { data := #[] }, .int .i64 0, .string { data := #[] }, .string { data := #[] }, .slice none 0 0, .slice none 0 0] 25)).drew.heap.size := by
                show wc.heap.size + 1 ≤ (wc.alloc _).heap.size
                simp
              have hbA := ((Below.refl wc.heap.size wc).alloc (Nat.le_refl _) (.cells #[.int .i64 0, .string { data := #[] }, .int .i64 0, .string { data := #[] }, .string { data := #[] }, .slice none 0 0, .slice none 0 0] 25)).drew
              refine hK.out _ _ (Until.cons (fun _ => (hbA.cell (by simp; omega)).trans HA6'.out) (Until.cons (fun _ => (hbA.cell (by simp; omega)).trans HB6'.out) (Until.cons (fun _ => keep7 hbA (by omega) HC2.out) (Until.cons (fun _ => keep7 hbA (by omega) HC3.out) Until.nil)))) (fun hU => ?_)
              clear hK K
              try simp only [Act.put, List.getElem_toArray, List.getElem_cons_zero, List.getElem_cons_succ, List.setIfInBounds_toArray, List.set_cons_zero, List.set_cons_succ]
              refine AnyU.ready1 (i := 11) (by kernel_rfl) (AnyU.one rfl fun K hK => ?_)
              go_simp
              go_at_call 21
              refine (HI.out a.subs[k] b.subs[j] (List.getElem_mem hlt') (List.getElem_mem hjs) _ _ B (wc.alloc (.cells #[.int .i64 0, .string { data := #[] }, .int .i64 0, .string { data := #[] }, .string { data := #[] }, .slice none 0 0, .slice none 0 0] 25)).drew ((HT2.out.alloc hw2 _).keep fun _ _ => rfl) ((HT3.out.alloc hw2 _).keep fun _ _ => rfl) (by show B ≤ (wc.alloc _).heap.size; simp; omega)).mono ?_
              rintro e w3 ⟨⟨t, cr, rfl, hrt, htm⟩, hb3⟩
              obtain ⟨na6, nc6, sa6, sc6, f6, rfl, -⟩ := htm.inv
              simp only [tyCells]
              have zb : Blk w3 wc.heap.size #[.int .i64 0, .string { data := #[] }, .int .i64 0, .string { data := #[] }, .string { data := #[] }, .slice none 0 0, .slice none 0 0] 25 := (Blk.new wc #[.int .i64 0, .string { data := #[] }, .int .i64 0, .string { data := #[] }, .string { data := #[] }, .slice none 0 0, .slice none 0 0] 25).drew.under hb3 (by show wc.heap.size < (wc.alloc _).heap.size; simp)
              have HAW := Lib.hid (show Below wc.heap.size wc w3 from ((Below.refl wc.heap.size wc).alloc (Nat.le_refl _) _).drew.trans (hb3.mono (by show wc.heap.size ≤ (wc.alloc _).heap.size; simp)))
              have z0 := zb.cell 0
              have zf0 := zb.free 0
              have z1 := zb.cell 1
              have zf1 := zb.free 1
              have z2 := zb.cell 2
              have zf2 := zb.free 2
              have z3 := zb.cell 3
              have zf3 := zb.free 3
              have z4 := zb.cell 4
              have zf4 := zb.free 4
              have z5 := zb.cell 5
              have zf5 := zb.free 5
              have z6 := zb.cell 6
              have zf6 := zb.free 6
              simp at z0 z1 z2 z3 z4 z5 z6
              have HZB := Lib.hid zb
              have HTM := Lib.hid htm
              have HRT := Lib.hid hrt
              clear htm hb3 hrt zb
              refine hK.out _ _ (Until.off (by kernel_rfl)) (fun hU => ?_)
              clear hK K
              try simp only [Act.put, List.getElem_toArray, List.getElem_cons_zero, List.getElem_cons_succ, List.setIfInBounds_toArray, List.set_cons_zero, List.set_cons_succ]
              refine AnyU.take (i := 12) (v := ?_) rfl (by kernel_rfl) (by kernel_rfl) (by kernel_rfl) (fun _ _ _ h => h) (by kernel_rfl) (by assumption) (by rfl) ?_ (fun hU => ?_)
              rotate_left 1
              · (intro wq; go_simp; try with_reducible rfl)
              simp only [Act.put, List.getElem_toArray, List.getElem_cons_zero, List.getElem_cons_succ, List.setIfInBounds_toArray, List.set_cons_zero, List.set_cons_succ]
              refine AnyU.take (i := 13) (v := ?_) rfl (by kernel_rfl) (by kernel_rfl) (by kernel_rfl) (fun _ _ _ h => h) (by kernel_rfl) (by assumption) (by rfl) ?_ (fun hU => ?_)
              rotate_left 1
              · (intro wq; go_simp; try with_reducible rfl)
              simp only [Act.put, List.getElem_toArray, List.getElem_cons_zero, List.getElem_cons_succ, List.setIfInBounds_toArray, List.set_cons_zero, List.set_cons_succ]
              refine AnyU.take (i := 14) (v := ?_) rfl (by kernel_rfl) (by kernel_rfl) (by kernel_rfl) (fun _ _ _ h => h) (by kernel_rfl) (by assumption) (by rfl) ?_ (fun hU => ?_)
              rotate_left 1
              · (intro wq; go_simp; try with_reducible rfl)
              simp only [Act.put, List.getElem_toArray, List.getElem_cons_zero, List.getElem_cons_succ, List.setIfInBounds_toArray, List.set_cons_zero, List.set_cons_succ]
              refine AnyU.ready1 (i := 16) (by kernel_rfl) (AnyU.one rfl fun K hK => ?_)
              go_simp
              refine hK.out _ _ (Until.off (by kernel_rfl)) (fun hU => ?_)
              clear hK K
              try simp only [Act.put, List.getElem_toArray, List.getElem_cons_zero, List.getElem_cons_succ, List.setIfInBounds_toArray, List.set_cons_zero, List.set_cons_succ]
              refine AnyU.take (i := 17) (v := ?_) rfl (by kernel_rfl) (by kernel_rfl) (by kernel_rfl) (fun _ _ _ h => h) (by kernel_rfl) (by assumption) (by rfl) ?_ (fun hU => ?_)
              rotate_left 1
              · (intro wq; go_simp; try with_reducible rfl)
              simp only [Act.put, List.getElem_toArray, List.getElem_cons_zero, List.getElem_cons_succ, List.setIfInBounds_toArray, List.set_cons_zero, List.set_cons_succ]
              refine AnyU.done (by kernel_rfl) ?_
              have hq := CutRel.two (W2 := wc) (X := (wc.alloc (.cells #[.int .i64 0, .string { data := #[] }, .int .i64 0, .string { data := #[] }, .string { data := #[] }, .slice none 0 0, .slice none 0 0] 25)).drew) hw2 (Below.refl _ _) HAW.out hX2 HZB.out HTM.out
              generalize (((((((((((((w3.setCell ⟨wc.heap.size, 0, none⟩ (.int .i64 t.kind))).setCell ⟨wc.heap.size, 1, none⟩ (.string t.pkg))).setCell ⟨wc.heap.size, 2, none⟩ (.int .i64 t.major))).setCell ⟨wc.heap.size, 3, none⟩ (.string t.mod))).setCell ⟨wc.heap.size, 4, none⟩ (.string t.name))).setCell ⟨wc.heap.size, 5, none⟩ (.slice na6 t.names.length nc6))).setCell ⟨wc.heap.size, 6, none⟩ (.slice sa6 t.subs.length sc6)) = Wz at hq ⊢
              have HQ := Lib.hid hq
              clear hq hU z0 z1 z2 z3 z4 z5 z6 zf0 zf1 zf2 zf3 zf4 zf5 zf6
              go_wp2_with fail
              go_meet
              exact ⟨_, _, _, _, _, _, rfl, rfl, HQ.out, HRT.out⟩
          case rest =>
            rename World => wd
            obtain ⟨tb, t, na6, nc6, sa6, sc6, rfl, rfl, hc, hrt⟩ := hcut
            have HC := Lib.hid hc
            have HRD := Lib.hid (HR2.out.under hB hc.below)
            have haccd := HRD.out.below
            have hszd := HRD.out.size
            cases hr : r a.subs[k] b.subs[j]
            case none =>
              clear hc hrt
              simp only [Option.isSome_none]
              have HG2 := Lib.hid (HG.out.trans hr)
              clear hr
              cases up
              case false =>
                have hst := Lib.hid (HRS.out.skip (s := a.names[k]) HG2.out (take_mem_succ hlt))
                go_wp2_with fail
                first
                  | exact ⟨⟨k + 1, _, _, by omega, by go_num, HRD.out, hst.out, all_none, by have := HLN.out; omega⟩, by simp [intOf]; omega⟩
                  | (go_roundw
                     case rel => exact ⟨k + 1, _, _, by omega, by go_num, HRD.out, hst.out, all_none, by have := HLN.out; omega⟩
                     case measure => simp [intOf]; omega)
              case true =>
                have hp : rowsR r a b true = none := rowsR_none (List.getElem_mem hlt) HMB.out HG2.out
                have HP := Lib.hid hp
                clear hp
                have hrs := HRD.out.res
                have z0 := hrs.cell 0
                have f0 := hrs.free 0
                have z1 := hrs.cell 1
                have f1 := hrs.free 1
                have z2 := hrs.cell 2
                have f2 := hrs.free 2
                have z3 := hrs.cell 3
                have f3 := hrs.free 3
                have z4 := hrs.cell 4
                have f4 := hrs.free 4
                have z5 := hrs.cell 5
                have f5 := hrs.free 5
                have z6 := hrs.cell 6
                have f6 := hrs.free 6
                simp at z0 z1 z2 z3 z4 z5 z6
                clear hrs
                go_wp2_with fail
                have hblk := put7_full (.int .i64 0) (.string { data := #[] }) (.int .i64 0) (.string { data := #[] }) (.string { data := #[] }) (.slice none 0 0) (.slice none 0 0) HRD.out.res
                have hbl := put7_bel (.int .i64 0) (.string { data := #[] }) (.int .i64 0) (.string { data := #[] }) (.string { data := #[] }) (.slice none 0 0) (.slice none 0 0) HRD.out.below (show w.heap.size ≤ w.heap.size + 1 + 1 by omega)
                generalize (((((((wd.setCell ⟨w.heap.size + 1 + 1, 0, none⟩ (.int .i64 0)).setCell ⟨w.heap.size + 1 + 1, 1, none⟩ (.string { data := #[] })).setCell ⟨w.heap.size + 1 + 1, 2, none⟩ (.int .i64 0)).setCell ⟨w.heap.size + 1 + 1, 3, none⟩ (.string { data := #[] })).setCell ⟨w.heap.size + 1 + 1, 4, none⟩ (.string { data := #[] })).setCell ⟨w.heap.size + 1 + 1, 5, none⟩ (.slice none 0 0)).setCell ⟨w.heap.size + 1 + 1, 6, none⟩ (.slice none 0 0)) = Wz at hblk hbl ⊢
                have p0 := hblk.cell 0
                have p1 := hblk.cell 1
                have p2 := hblk.cell 2
                have p3 := hblk.cell 3
                have p4 := hblk.cell 4
                have p5 := hblk.cell 5
                have p6 := hblk.cell 6
                simp at p0 p1 p2 p3 p4 p5 p6
                refine bodyPost_ret (by simp [results, Try.results21, go_sem, p0, p1, p2, p3, p4, p5, p6]; try rfl) rfl ?_
                exact ⟨⟨zeroTy, _, (by rw [HP.out]; rfl), fun x h => (by rw [HP.out] at h; cases h), (zero_tyc _ B).toM.mono fun b hb => Or.inl hb⟩, hbl⟩
            case some t2 =>
              obtain rfl := hrt _ hr
              have HG2 := Lib.hid (HG.out.trans hr)
              have HST := Lib.hid (HRS.out.put (take_fresh HRA.out.rise hlt) HG2.out (take_mem_succ hlt))
              have HALL2 := Lib.hid (all_succ hlt HALL.out fun _ => by rw [HG2.out]; rfl)
              have HX := Lib.hid (show TyM wd (fun b => b < B ∨ (w.heap.size + 4 ≤ b ∧ b < wd.heap.size)) t (tyCells t na6 nc6 sa6 sc6) from hc.ty.mono fun b hb => hb.imp id fun h => ⟨Nat.le_trans hsz2 h.1, h.2⟩)
              have htb := hc.blk
              have t0 := htb.cell 0
              have t1 := htb.cell 1
              have t2 := htb.cell 2
              have t3 := htb.cell 3
              have t4 := htb.cell 4
              have t5 := htb.cell 5
              have t6 := htb.cell 6
              simp [tyCells] at t0 t1 t2 t3 t4 t5 t6
              have HTB := Lib.hid (And.intro t0 (And.intro t1 (And.intro t2 (And.intro t3 (And.intro t4 (And.intro t5 t6))))))
              have HCN3 := Lib.hid ((hc.below.cell (p := ⟨b1, o1 + k, none⟩) (by simp; omega)).trans HCN2.out)
              have a5 := HRD.out.boxa.cell 5
              simp [tyCells] at a5
              have HA5d := Lib.hid a5
              clear hc hrt hr htb a5 t0 t1 t2 t3 t4 t5 t6
              have ob := HRD.out.out
              have o0 := ob.cell 0
              have o1 := ob.cell 1
              have o2 := ob.cell 2
              have o3 := ob.cell 3
              have o4 := ob.cell 4
              have o5 := ob.cell 5
              have o6 := ob.cell 6
              simp at o0 o1 o2 o3 o4 o5 o6
              have HOUT := Lib.hid (And.intro o0 (And.intro o1 (And.intro o2 (And.intro o3 (And.intro o4 (And.intro o5 o6))))))
              clear ob o0 o1 o2 o3 o4 o5 o6
              simp only [Option.isSome_some]
              go_upto_region 32 with fail
              refine wp_region_until [(7, fun w' => w'.cell? ⟨w.heap.size + 1 + 1 + 1, 0, none⟩ = some (.int .i64 a.kind) ∧ w'.cell? ⟨w.heap.size + 1 + 1 + 1, 1, none⟩ = some (.string { data := #[] }) ∧ w'.cell? ⟨w.heap.size + 1 + 1 + 1, 2, none⟩ = some (.int .i64 0) ∧ w'.cell? ⟨w.heap.size + 1 + 1 + 1, 3, none⟩ = some (.string { data := #[] }) ∧ w'.cell? ⟨w.heap.size + 1 + 1 + 1, 4, none⟩ = some (.string { data := #[] }) ∧ w'.cell? ⟨w.heap.size + 1 + 1 + 1, 5, none⟩ = some (.slice naC L.length ncC) ∧ w'.cell? ⟨w.heap.size + 1 + 1 + 1, 6, none⟩ = some (.slice saC L.length scC)), (7, fun w' => w'.cell? ⟨w.heap.size, 5, none⟩ = some (.slice (some ⟨b1, o1, none⟩) a.names.length nc)), (7, fun w' => w'.cell? ⟨b1, o1 + k, none⟩ = some (.string a.names[k])), (7, fun w' => w'.cell? ⟨tb, 0, none⟩ = some (.int .i64 t.kind) ∧ w'.cell? ⟨tb, 1, none⟩ = some (.string t.pkg) ∧ w'.cell? ⟨tb, 2, none⟩ = some (.int .i64 t.major) ∧ w'.cell? ⟨tb, 3, none⟩ = some (.string t.mod) ∧ w'.cell? ⟨tb, 4, none⟩ = some (.string t.name) ∧ w'.cell? ⟨tb, 5, none⟩ = some (.slice na6 t.names.length nc6) ∧ w'.cell? ⟨tb, 6, none⟩ = some (.slice sa6 t.subs.length sc6))] (by kernel_rfl) (Until.cons (fun _ => HOUT.out) (Until.cons (fun _ => HA5d.out) (Until.cons (fun _ => HCN3.out) (Until.cons (fun _ => HTB.out) Until.nil)))) (fun hU => ?_)
              refine AnyU.loadc (i := 0) (d := 7) [7] (Si := fun w' => w'.cell? ⟨w.heap.size + 1 + 1 + 1, 0, none⟩ = some (.int .i64 a.kind) ∧ w'.cell? ⟨w.heap.size + 1 + 1 + 1, 1, none⟩ = some (.string { data := #[] }) ∧ w'.cell? ⟨w.heap.size + 1 + 1 + 1, 2, none⟩ = some (.int .i64 0) ∧ w'.cell? ⟨w.heap.size + 1 + 1 + 1, 3, none⟩ = some (.string { data := #[] }) ∧ w'.cell? ⟨w.heap.size + 1 + 1 + 1, 4, none⟩ = some (.string { data := #[] }) ∧ w'.cell? ⟨w.heap.size + 1 + 1 + 1, 5, none⟩ = some (.slice naC L.length ncC) ∧ w'.cell? ⟨w.heap.size + 1 + 1 + 1, 6, none⟩ = some (.slice saC L.length scC)) (v := ?_) rfl (by kernel_rfl) (by kernel_rfl) (by kernel_rfl) (fun _ _ _ h => h) (by kernel_rfl) (by assumption) (by kernel_rfl) rfl (by simp) (by rfl) ?_ (fun hU => ?_)
              rotate_left 1
              · (intro wq hq; obtain ⟨u0, u1, u2, u3, u4, u5, u6⟩ := hq; go_simp; try with_reducible rfl)
              simp only [Act.put, List.getElem_toArray, List.getElem_cons_zero, List.getElem_cons_succ, List.setIfInBounds_toArray, List.set_cons_zero, List.set_cons_succ]
              refine AnyU.take (i := 1) (v := ?_) rfl (by kernel_rfl) (by kernel_rfl) (by kernel_rfl) (fun _ _ _ h => h) (by kernel_rfl) (by assumption) (by rfl) ?_ (fun hU => ?_)
              rotate_left 1
              · (intro wq; go_simp; try with_reducible rfl)
              simp only [Act.put, List.getElem_toArray, List.getElem_cons_zero, List.getElem_cons_succ, List.setIfInBounds_toArray, List.set_cons_zero, List.set_cons_succ]
              refine AnyU.loadc (i := 2) (d := 7) [4, 5, 7] (Si := fun w' => w'.cell? ⟨w.heap.size, 5, none⟩ = some (.slice (some ⟨b1, o1, none⟩) a.names.length nc)) (v := ?_) rfl (by kernel_rfl) (by kernel_rfl) (by kernel_rfl) (fun _ _ _ h => h) (by kernel_rfl) (by assumption) (by kernel_rfl) rfl (by simp) (by rfl) ?_ (fun hU => ?_)
              rotate_left 1
              · (intro wq hq; go_simp; try with_reducible rfl)
              simp only [Act.put, List.getElem_toArray, List.getElem_cons_zero, List.getElem_cons_succ, List.setIfInBounds_toArray, List.set_cons_zero, List.set_cons_succ]
              refine AnyU.take (i := 3) (v := ?_) rfl (by kernel_rfl) (by kernel_rfl) (by kernel_rfl) (fun _ _ _ h => h) (by kernel_rfl) (by assumption) (by rfl) ?_ (fun hU => ?_)
              rotate_left 1
              · (intro wq; go_simp; try with_reducible rfl)
              simp only [Act.put, List.getElem_toArray, List.getElem_cons_zero, List.getElem_cons_succ, List.setIfInBounds_toArray, List.set_cons_zero, List.set_cons_succ]
              refine AnyU.take (i := 4) (v := ?_) rfl (by kernel_rfl) (by kernel_rfl) (by kernel_rfl) (fun _ _ _ h => h) (by kernel_rfl) (by assumption) (by rfl) ?_ (fun hU => ?_)
              rotate_left 1
              · (intro wq; go_simp; try with_reducible rfl)
              simp only [Act.put, List.getElem_toArray, List.getElem_cons_zero, List.getElem_cons_succ, List.setIfInBounds_toArray, List.set_cons_zero, List.set_cons_succ]
              refine AnyU.loadc (i := 5) (d := 7) [7] (Si := fun w' => w'.cell? ⟨b1, o1 + k, none⟩ = some (.string a.names[k])) (v := ?_) rfl (by kernel_rfl) (by kernel_rfl) (by kernel_rfl) (fun _ _ _ h => h) (by kernel_rfl) (by assumption) (by kernel_rfl) rfl (by simp) (by rfl) ?_ (fun hU => ?_)
              rotate_left 1
              · (intro wq hq; go_simp; try with_reducible rfl)
              simp only [Act.put, List.getElem_toArray, List.getElem_cons_zero, List.getElem_cons_succ, List.setIfInBounds_toArray, List.set_cons_zero, List.set_cons_succ]
              refine AnyU.loadc (i := 6) (d := 7) [7] (Si := fun w' => w'.cell? ⟨tb, 0, none⟩ = some (.int .i64 t.kind) ∧ w'.cell? ⟨tb, 1, none⟩ = some (.string t.pkg) ∧ w'.cell? ⟨tb, 2, none⟩ = some (.int .i64 t.major) ∧ w'.cell? ⟨tb, 3, none⟩ = some (.string t.mod) ∧ w'.cell? ⟨tb, 4, none⟩ = some (.string t.name) ∧ w'.cell? ⟨tb, 5, none⟩ = some (.slice na6 t.names.length nc6) ∧ w'.cell? ⟨tb, 6, none⟩ = some (.slice sa6 t.subs.length sc6)) (v := ?_) rfl (by kernel_rfl) (by kernel_rfl) (by kernel_rfl) (fun _ _ _ h => h) (by kernel_rfl) (by assumption) (by kernel_rfl) rfl (by simp) (by rfl) ?_ (fun hU => ?_)
              rotate_left 1
              · (intro wq hq; obtain ⟨u0, u1, u2, u3, u4, u5, u6⟩ := hq; go_simp; try with_reducible rfl)
              simp only [Act.put, List.getElem_toArray, List.getElem_cons_zero, List.getElem_cons_succ, List.setIfInBounds_toArray, List.set_cons_zero, List.set_cons_succ]
              refine AnyU.ready1 (i := 7) (by kernel_rfl) (AnyU.one rfl fun K hK => ?_)
              go_simp
              go_at_call 40
              refine (HRD.out.putc hB HF.out (by have := HLN.out; omega) (HF.out.each _ (List.getElem_mem hlt)) HX.out).mono ?_
              rintro e w5 ⟨na4, nc4, sa4, sc4, rfl, hb5, hr5⟩
              have ob := HRD.out.out.under hb5 HRD.out.out.lt
              have z0 := ob.cell 0
              have zf0 := ob.free 0
              have z1 := ob.cell 1
              have zf1 := ob.free 1
              have z2 := ob.cell 2
              have zf2 := ob.free 2
              have z3 := ob.cell 3
              have zf3 := ob.free 3
              have z4 := ob.cell 4
              have zf4 := ob.free 4
              have z5 := ob.cell 5
              have zf5 := ob.free 5
              have z6 := ob.cell 6
              have zf6 := ob.free 6
              simp at z0 z1 z2 z3 z4 z5 z6
              have HR5 := Lib.hid hr5
              clear ob hr5 hb5
              refine hK.out _ _ (Until.off (by kernel_rfl)) (fun hU => ?_)
              clear hK K
              try simp only [Act.put, List.getElem_toArray, List.getElem_cons_zero, List.getElem_cons_succ, List.setIfInBounds_toArray, List.set_cons_zero, List.set_cons_succ]
              refine AnyU.ready1 (i := 8) (by kernel_rfl) (AnyU.one rfl fun K hK => ?_)
              go_simp
              refine hK.out _ _ (Until.off (by kernel_rfl)) (fun hU => ?_)
              clear hK K
              try simp only [Act.put, List.getElem_toArray, List.getElem_cons_zero, List.getElem_cons_succ, List.setIfInBounds_toArray, List.set_cons_zero, List.set_cons_succ]
              refine AnyU.done (by kernel_rfl) ?_
              have hr6 := HR5.out
              generalize (((((((w5.setCell ⟨w.heap.size + 1 + 1 + 1, 0, none⟩ (.int .i64 a.kind)).setCell ⟨w.heap.size + 1 + 1 + 1, 1, none⟩ (.string { data := #[] })).setCell ⟨w.heap.size + 1 + 1 + 1, 2, none⟩ (.int .i64 0)).setCell ⟨w.heap.size + 1 + 1 + 1, 3, none⟩ (.string { data := #[] })).setCell ⟨w.heap.size + 1 + 1 + 1, 4, none⟩ (.string { data := #[] })).setCell ⟨w.heap.size + 1 + 1 + 1, 5, none⟩ (.slice na4 (putF a.names[k] t L).length nc4)).setCell ⟨w.heap.size + 1 + 1 + 1, 6, none⟩ (.slice sa4 (putF a.names[k] t L).length sc4)) = Wz at hr6 ⊢
              have HR6 := Lib.hid hr6
              clear hU hr6 HR5 z0 z1 z2 z3 z4 z5 z6 zf0 zf1 zf2 zf3 zf4 zf5 zf6
              go_wp2_with fail
              first
                | exact ⟨⟨k + 1, _, _, by omega, by go_num, HR6.out, HST.out, HALL2.out, putF_two HLN.out⟩, by simp [intOf]; omega⟩
                | (go_roundw
                   case rel => exact ⟨k + 1, _, _, by omega, by go_num, HR6.out, HST.out, HALL2.out, putF_two HLN.out⟩
                   case measure => simp [intOf]; omega)
    · have hke : k = a.names.length := by omega
      have hkx : ¬ (k : Int) < (a.names.length : Int) := by omega
      have hrs := HRS.out
      have hall := HALL.out
      rw [hke] at hrs hall
      have HRS3 := Lib.hid hrs.second
      have HALL3 := Lib.hid hall
      have HL40 := Lib.hid (show L.length ≤ 40 by have := HLN.out; have := HNA.out; omega)
      clear hrs hall hr
      go_wp2_with fail
      go_loopw [18] (fun i wq => ∃ (k : Nat) (L : List (ByteArray × Ty)) (co : Array Value), k ≤ b.names.length ∧ i = .int .i64 k ∧ RMem w wq a b na nc sa sc na' nc' sa' sc' B L co ∧ RSt L (DB a b up k) (gB r a b up) ∧ L.length ≤ 40 + 2 * k) (fun i _ => b.names.length - (intOf i).toNat)
      case atStart => exact ⟨0, _, _, Nat.zero_le _, rfl, HR.out, HRS3.out, HL40.out⟩
      case round =>
        rename World => wq
        clear HRS3 HL40 HR HRS HALL HLN a5 b5 hlt hke hkx hk hacc hsz
        obtain ⟨k2, L2, co2, hk2, rfl, hr, hrs, hlen⟩ := hrel
        obtain ⟨na7, nc7, sa7, sc7, rfl⟩ := hr.form
        have HR := Lib.hid hr
        have HRS := Lib.hid hrs
        have HLN := Lib.hid hlen
        have hacc := hr.below
        have hsz := hr.size
        have a5 := hr.boxa.cell 5
        have b5 := hr.boxb.cell 5
        have b6 := hr.boxb.cell 6
        have a0 := hr.boxa.cell 0
        simp [tyCells] at a5 b5 b6 a0
        rw [HK.out] at a0
        have HA0 := Lib.hid a0
        have hwq : B ≤ wq.heap.size := by omega
        clear hrs hlen
        by_cases hlt : k2 < b.names.length
        · have hlt' : k2 < b.subs.length := by have := HNB.out; omega
          have hk20 : k2 < 20 := by omega
          have hltI : (k2 : Int) < (b.names.length : Int) := by omega
          have hltJ : (k2 : Int) < (b.subs.length : Int) := by omega
          clear hr
          cases up
          case false =>
            have hst := Lib.hid (HRS.out.skipB hlt (fun h => by cases h))
            go_upto_region 36 with fail
            go_quiet (fail)
            go_wp2_with fail
            first
              | exact ⟨⟨k2 + 1, _, _, by omega, by go_num, HR.out.under hB (below_drewN (Below.refl wq.heap.size wq) _), hst.out, by have := HLN.out; omega⟩, by simp [intOf]; omega⟩
              | (go_roundw
                 case rel => exact ⟨k2 + 1, _, _, by omega, by go_num, HR.out.under hB (below_drewN (Below.refl wq.heap.size wq) _), hst.out, by have := HLN.out; omega⟩
                 case measure => simp [intOf]; omega)
          case true =>
            have hnk : ∃ b1 o1, na' = some ⟨b1, o1, none⟩ ∧ wq.cell? ⟨b1, o1 + k2, none⟩ = some (.string b.names[k2]) ∧ b1 < B := by
              rcases HN'.out with h | ⟨b1, o1, h1, h2, h3⟩
              · rw [h] at hlt; simp at hlt
              · exact ⟨b1, o1, h1, (hacc.cell (p := ⟨b1, o1 + k2, none⟩) (by simp; omega)).trans (h3 k2 hlt), h2⟩
            obtain ⟨b1, o1, rfl, hcn, hb1⟩ := hnk
            have HA5 := Lib.hid a5
            have HB5 := Lib.hid b5
            have HB6 := Lib.hid b6
            have HCN := Lib.hid hcn
            clear a0
            go_upto_region 36 with fail
            clear a5 b5 b6 hcn
            generalize hmb : memB b.names[k2] a.names = mb
            have HMB := Lib.hid hmb
            clear hmb
            refine wp_region_until [(9, fun w' => w'.cell? ⟨w.heap.size, 5, none⟩ = some (.slice na a.names.length nc)), (9, fun w' => w'.cell? ⟨w.heap.size + 1, 5, none⟩ = some (.slice (some ⟨b1, o1, none⟩) b.names.length nc')), (9, fun w' => w'.cell? ⟨b1, o1 + k2, none⟩ = some (.string b.names[k2]))] (by kernel_rfl) (Until.cons (fun _ => HA5.out) (Until.cons (fun _ => HB5.out) (Until.cons (fun _ => HCN.out) Until.nil))) (fun hU => ?_)
            refine AnyU.take (i := 0) (v := ?_) rfl (by kernel_rfl) (by kernel_rfl) (by kernel_rfl) (fun _ _ _ h => h) (by kernel_rfl) (by assumption) (by rfl) ?_ (fun hU => ?_)
            rotate_left 1
            · (intro wq; go_simp; try with_reducible rfl)
            simp only [Act.put, List.getElem_toArray, List.getElem_cons_zero, List.getElem_cons_succ, List.setIfInBounds_toArray, List.set_cons_zero, List.set_cons_succ]
            refine AnyU.take (i := 1) (v := ?_) rfl (by kernel_rfl) (by kernel_rfl) (by kernel_rfl) (fun _ _ _ h => h) (by kernel_rfl) (by assumption) (by rfl) ?_ (fun hU => ?_)
            rotate_left 1
            · (intro wq; go_simp; try with_reducible rfl)
            simp only [Act.put, List.getElem_toArray, List.getElem_cons_zero, List.getElem_cons_succ, List.setIfInBounds_toArray, List.set_cons_zero, List.set_cons_succ]
            refine AnyU.take (i := 2) (v := ?_) rfl (by kernel_rfl) (by kernel_rfl) (by kernel_rfl) (fun _ _ _ h => h) (by kernel_rfl) (by assumption) (by rfl) ?_ (fun hU => ?_)
            rotate_left 1
            · (intro wq; go_simp; try with_reducible rfl)
            simp only [Act.put, List.getElem_toArray, List.getElem_cons_zero, List.getElem_cons_succ, List.setIfInBounds_toArray, List.set_cons_zero, List.set_cons_succ]
            refine AnyU.loadc (i := 3) (d := 9) [9] (Si := fun w' => w'.cell? ⟨w.heap.size, 5, none⟩ = some (.slice na a.names.length nc)) (v := ?_) rfl (by kernel_rfl) (by kernel_rfl) (by kernel_rfl) (fun _ _ _ h => h) (by kernel_rfl) (by assumption) (by kernel_rfl) rfl (by simp) (by rfl) ?_ (fun hU => ?_)
            rotate_left 1
            · (intro wq hq; go_simp; try with_reducible rfl)
            simp only [Act.put, List.getElem_toArray, List.getElem_cons_zero, List.getElem_cons_succ, List.setIfInBounds_toArray, List.set_cons_zero, List.set_cons_succ]
            refine AnyU.take (i := 4) (v := ?_) rfl (by kernel_rfl) (by kernel_rfl) (by kernel_rfl) (fun _ _ _ h => h) (by kernel_rfl) (by assumption) (by rfl) ?_ (fun hU => ?_)
            rotate_left 1
            · (intro wq; go_simp; try with_reducible rfl)
            simp only [Act.put, List.getElem_toArray, List.getElem_cons_zero, List.getElem_cons_succ, List.setIfInBounds_toArray, List.set_cons_zero, List.set_cons_succ]
            refine AnyU.loadc (i := 5) (d := 9) [7, 8, 9] (Si := fun w' => w'.cell? ⟨w.heap.size + 1, 5, none⟩ = some (.slice (some ⟨b1, o1, none⟩) b.names.length nc')) (v := ?_) rfl (by kernel_rfl) (by kernel_rfl) (by kernel_rfl) (fun _ _ _ h => h) (by kernel_rfl) (by assumption) (by kernel_rfl) rfl (by simp) (by rfl) ?_ (fun hU => ?_)
            rotate_left 1
            · (intro wq hq; go_simp; try with_reducible rfl)
            simp only [Act.put, List.getElem_toArray, List.getElem_cons_zero, List.getElem_cons_succ, List.setIfInBounds_toArray, List.set_cons_zero, List.set_cons_succ]
            refine AnyU.take (i := 6) (v := ?_) rfl (by kernel_rfl) (by kernel_rfl) (by kernel_rfl) (fun _ _ _ h => h) (by kernel_rfl) (by assumption) (by rfl) ?_ (fun hU => ?_)
            rotate_left 1
            · (intro wq; go_simp; try with_reducible rfl)
            simp only [Act.put, List.getElem_toArray, List.getElem_cons_zero, List.getElem_cons_succ, List.setIfInBounds_toArray, List.set_cons_zero, List.set_cons_succ]
            refine AnyU.take (i := 7) (v := ?_) rfl (by kernel_rfl) (by kernel_rfl) (by kernel_rfl) (fun _ _ _ h => h) (by kernel_rfl) (by assumption) (by rfl) ?_ (fun hU => ?_)
            rotate_left 1
            · (intro wq; go_simp; try with_reducible rfl)
            simp only [Act.put, List.getElem_toArray, List.getElem_cons_zero, List.getElem_cons_succ, List.setIfInBounds_toArray, List.set_cons_zero, List.set_cons_succ]
            refine AnyU.loadc (i := 8) (d := 9) [9] (Si := fun w' => w'.cell? ⟨b1, o1 + k2, none⟩ = some (.string b.names[k2])) (v := ?_) rfl (by kernel_rfl) (by kernel_rfl) (by kernel_rfl) (fun _ _ _ h => h) (by kernel_rfl) (by assumption) (by kernel_rfl) rfl (by simp) (by rfl) ?_ (fun hU => ?_)
            rotate_left 1
            · (intro wq hq; go_simp; try with_reducible rfl)
            simp only [Act.put, List.getElem_toArray, List.getElem_cons_zero, List.getElem_cons_succ, List.setIfInBounds_toArray, List.set_cons_zero, List.set_cons_succ]
            refine AnyU.ready1 (i := 9) (by kernel_rfl) (AnyU.one rfl fun K hK => ?_)
            go_simp
            go_at_call 37
            refine (refOf_c na nc B a.names b.names[k2] wq.drew (by have := HRA.out.len; omega) ((HN.out.keep fun p hp => hacc.cell (p := p) (by omega)).keep fun _ _ => rfl)).mono ?_
            rintro e w5 ⟨rfl, rfl⟩
            refine hK.out _ _ (Until.off (by kernel_rfl)) (fun hU => ?_)
            clear hK K
            try simp only [Act.put, List.getElem_toArray, List.getElem_cons_zero, List.getElem_cons_succ, List.setIfInBounds_toArray, List.set_cons_zero, List.set_cons_succ]
            cases mb
            case true =>
              rw [ofI_hit HMB.out]
              generalize firstOf a.names b.names[k2] = j2
              have hj0 : ¬ ((j2 : Int) < 0) := by omega
              refine AnyU.take (i := 10) (v := ?_) rfl (by kernel_rfl) (by kernel_rfl) (by kernel_rfl) (fun _ _ _ h => h) (by kernel_rfl) (by assumption) (by rfl) ?_ (fun hU => ?_)
              rotate_left 1
              · (intro wq; go_simp; try with_reducible rfl)
              simp only [Act.put, List.getElem_toArray, List.getElem_cons_zero, List.getElem_cons_succ, List.setIfInBounds_toArray, List.set_cons_zero, List.set_cons_succ]
              refine AnyU.take (i := 11) (v := ?_) rfl (by kernel_rfl) (by kernel_rfl) (by kernel_rfl) (fun _ _ _ h => h) (by kernel_rfl) (by assumption) (by rfl) ?_ (fun hU => ?_)
              rotate_left 1
              · (intro wq; go_simp; try with_reducible rfl)
              simp only [Act.put, List.getElem_toArray, List.getElem_cons_zero, List.getElem_cons_succ, List.setIfInBounds_toArray, List.set_cons_zero, List.set_cons_succ]
              refine AnyU.done (by kernel_rfl) ?_
              clear hU
              have hst := Lib.hid (HRS.out.skipB hlt (fun _ => HMB.out))
              have HRq := Lib.hid (HR.out.under hB (Below.refl wq.heap.size wq).drew)
              go_wp2_with fail
              first
                | exact ⟨⟨k2 + 1, _, _, by omega, by go_num, HRq.out, hst.out, by have := HLN.out; omega⟩, by simp [intOf]; omega⟩
                | (go_roundw
                   case rel => exact ⟨k2 + 1, _, _, by omega, by go_num, HRq.out, hst.out, by have := HLN.out; omega⟩
                   case measure => simp [intOf]; omega)
            case false =>
              rw [ofI_miss HMB.out]
              refine AnyU.take (i := 10) (v := ?_) rfl (by kernel_rfl) (by kernel_rfl) (by kernel_rfl) (fun _ _ _ h => h) (by kernel_rfl) (by assumption) (by rfl) ?_ (fun hU => ?_)
              rotate_left 1
              · (intro wq; go_simp; try with_reducible rfl)
              simp only [Act.put, List.getElem_toArray, List.getElem_cons_zero, List.getElem_cons_succ, List.setIfInBounds_toArray, List.set_cons_zero, List.set_cons_succ]
              refine AnyU.take (i := 11) (v := ?_) rfl (by kernel_rfl) (by kernel_rfl) (by kernel_rfl) (fun _ _ _ h => h) (by kernel_rfl) (by assumption) (by rfl) ?_ (fun hU => ?_)
              rotate_left 1
              · (intro wq; go_simp; try with_reducible rfl)
              simp only [Act.put, List.getElem_toArray, List.getElem_cons_zero, List.getElem_cons_succ, List.setIfInBounds_toArray, List.set_cons_zero, List.set_cons_succ]
              refine AnyU.done (by kernel_rfl) ?_
              clear hU
              have hst := Lib.hid (HRS.out.putB HRB.out hlt hlt' rfl HMB.out)
              have HRq := Lib.hid (HR.out.under hB (Below.refl wq.heap.size wq).drew)
              have hD : ∀ p, wq.drew.cell? p = wq.cell? p := fun _ => rfl
              generalize wq.drew = wv at HRq hD ⊢
              have HCN2 := Lib.hid ((hD _).trans HCN.out)
              have HB5' := Lib.hid ((hD _).trans HB5.out)
              have HB6' := Lib.hid ((hD _).trans HB6.out)
              clear hD HA5 HB5 HB6 HCN HR
              have hT2 := (HU'.out k2 hlt').under (HRq.out.below.mono hB)
              obtain ⟨b2, o2, na2, nc2, sa2, sc2, rfl, hbb2, hfk2, c0, c1, c2, c3, c4, c5, c6⟩ := TyC.elem (HS'.out.keep fun p hp => HRq.out.below.cell (p := p) (by omega)) hlt' hT2
              rw [hfk2] at hT2
              have HT2 := Lib.hid hT2
              have HC2 := Lib.hid (And.intro c0 (And.intro c1 (And.intro c2 (And.intro c3 (And.intro c4 (And.intro c5 c6))))))
              clear hT2 hfk2 c0 c1 c2 c3 c4 c5 c6
              have ob := HRq.out.out
              have o0 := ob.cell 0
              have o1 := ob.cell 1
              have o2 := ob.cell 2
              have o3 := ob.cell 3
              have o4 := ob.cell 4
              have o5 := ob.cell 5
              have o6 := ob.cell 6
              simp at o0 o1 o2 o3 o4 o5 o6
              have HOUT := Lib.hid (And.intro o0 (And.intro o1 (And.intro o2 (And.intro o3 (And.intro o4 (And.intro o5 o6))))))
              clear ob o0 o1 o2 o3 o4 o5 o6
              go_upto_region 37 with fail
              refine wp_region_until [(11, fun w' => w'.cell? ⟨w.heap.size + 1 + 1 + 1, 0, none⟩ = some (.int .i64 a.kind) ∧ w'.cell? ⟨w.heap.size + 1 + 1 + 1, 1, none⟩ = some (.string { data := #[] }) ∧ w'.cell? ⟨w.heap.size + 1 + 1 + 1, 2, none⟩ = some (.int .i64 0) ∧ w'.cell? ⟨w.heap.size + 1 + 1 + 1, 3, none⟩ = some (.string { data := #[] }) ∧ w'.cell? ⟨w.heap.size + 1 + 1 + 1, 4, none⟩ = some (.string { data := #[] }) ∧ w'.cell? ⟨w.heap.size + 1 + 1 + 1, 5, none⟩ = some (.slice na7 L2.length nc7) ∧ w'.cell? ⟨w.heap.size + 1 + 1 + 1, 6, none⟩ = some (.slice sa7 L2.length sc7)), (11, fun w' => w'.cell? ⟨w.heap.size + 1, 5, none⟩ = some (.slice (some ⟨b1, o1, none⟩) b.names.length nc')), (11, fun w' => w'.cell? ⟨b1, o1 + k2, none⟩ = some (.string b.names[k2])), (11, fun w' => w'.cell? ⟨w.heap.size + 1, 6, none⟩ = some (.slice (some ⟨b2, o2, none⟩) b.subs.length sc')), (11, fun w' => w'.cell? ⟨b2, o2 + k2 * 7, none⟩ = some (.int .i64 b.subs[k2].kind) ∧ w'.cell? ⟨b2, o2 + k2 * 7 + 1, none⟩ = some (.string b.subs[k2].pkg) ∧ w'.cell? ⟨b2, o2 + k2 * 7 + 2, none⟩ = some (.int .i64 b.subs[k2].major) ∧ w'.cell? ⟨b2, o2 + k2 * 7 + 3, none⟩ = some (.string b.subs[k2].mod) ∧ w'.cell? ⟨b2, o2 + k2 * 7 + 4, none⟩ = some (.string b.subs[k2].name) ∧ w'.cell? ⟨b2, o2 + k2 * 7 + 5, none⟩ = some (.slice na2 b.subs[k2].names.length nc2) ∧ w'.cell? ⟨b2, o2 + k2 * 7 + 6, none⟩ = some (.slice sa2 b.subs[k2].subs.length sc2))] (by kernel_rfl) (Until.cons (fun _ => HOUT.out) (Until.cons (fun _ => HB5'.out) (Until.cons (fun _ => HCN2.out) (Until.cons (fun _ => HB6'.out) (Until.cons (fun _ => HC2.out) Until.nil))))) (fun hU => ?_)
              refine AnyU.loadc (i := 0) (d := 11) [11] (Si := fun w' => w'.cell? ⟨w.heap.size + 1 + 1 + 1, 0, none⟩ = some (.int .i64 a.kind) ∧ w'.cell? ⟨w.heap.size + 1 + 1 + 1, 1, none⟩ = some (.string { data := #[] }) ∧ w'.cell? ⟨w.heap.size + 1 + 1 + 1, 2, none⟩ = some (.int .i64 0) ∧ w'.cell? ⟨w.heap.size + 1 + 1 + 1, 3, none⟩ = some (.string { data := #[] }) ∧ w'.cell? ⟨w.heap.size + 1 + 1 + 1, 4, none⟩ = some (.string { data := #[] }) ∧ w'.cell? ⟨w.heap.size + 1 + 1 + 1, 5, none⟩ = some (.slice na7 L2.length nc7) ∧ w'.cell? ⟨w.heap.size + 1 + 1 + 1, 6, none⟩ = some (.slice sa7 L2.length sc7)) (v := ?_) rfl (by kernel_rfl) (by kernel_rfl) (by kernel_rfl) (fun _ _ _ h => h) (by kernel_rfl) (by assumption) (by kernel_rfl) rfl (by simp) (by rfl) ?_ (fun hU => ?_)
              rotate_left 1
              · (intro wq hq; obtain ⟨u0, u1, u2, u3, u4, u5, u6⟩ := hq; go_simp; try with_reducible rfl)
              simp only [Act.put, List.getElem_toArray, List.getElem_cons_zero, List.getElem_cons_succ, List.setIfInBounds_toArray, List.set_cons_zero, List.set_cons_succ]
              refine AnyU.take (i := 1) (v := ?_) rfl (by kernel_rfl) (by kernel_rfl) (by kernel_rfl) (fun _ _ _ h => h) (by kernel_rfl) (by assumption) (by rfl) ?_ (fun hU => ?_)
              rotate_left 1
              · (intro wq; go_simp; try with_reducible rfl)
              simp only [Act.put, List.getElem_toArray, List.getElem_cons_zero, List.getElem_cons_succ, List.setIfInBounds_toArray, List.set_cons_zero, List.set_cons_succ]
              refine AnyU.loadc (i := 2) (d := 11) [4, 5, 11] (Si := fun w' => w'.cell? ⟨w.heap.size + 1, 5, none⟩ = some (.slice (some ⟨b1, o1, none⟩) b.names.length nc')) (v := ?_) rfl (by kernel_rfl) (by kernel_rfl) (by kernel_rfl) (fun _ _ _ h => h) (by kernel_rfl) (by assumption) (by kernel_rfl) rfl (by simp) (by rfl) ?_ (fun hU => ?_)
              rotate_left 1
              · (intro wq hq; go_simp; try with_reducible rfl)
              simp only [Act.put, List.getElem_toArray, List.getElem_cons_zero, List.getElem_cons_succ, List.setIfInBounds_toArray, List.set_cons_zero, List.set_cons_succ]
              refine AnyU.take (i := 3) (v := ?_) rfl (by kernel_rfl) (by kernel_rfl) (by kernel_rfl) (fun _ _ _ h => h) (by kernel_rfl) (by assumption) (by rfl) ?_ (fun hU => ?_)
              rotate_left 1
              · (intro wq; go_simp; try with_reducible rfl)
              simp only [Act.put, List.getElem_toArray, List.getElem_cons_zero, List.getElem_cons_succ, List.setIfInBounds_toArray, List.set_cons_zero, List.set_cons_succ]
              refine AnyU.take (i := 4) (v := ?_) rfl (by kernel_rfl) (by kernel_rfl) (by kernel_rfl) (fun _ _ _ h => h) (by kernel_rfl) (by assumption) (by rfl) ?_ (fun hU => ?_)
              rotate_left 1
              · (intro wq; go_simp; try with_reducible rfl)
              simp only [Act.put, List.getElem_toArray, List.getElem_cons_zero, List.getElem_cons_succ, List.setIfInBounds_toArray, List.set_cons_zero, List.set_cons_succ]
              refine AnyU.loadc (i := 5) (d := 11) [11] (Si := fun w' => w'.cell? ⟨b1, o1 + k2, none⟩ = some (.string b.names[k2])) (v := ?_) rfl (by kernel_rfl) (by kernel_rfl) (by kernel_rfl) (fun _ _ _ h => h) (by kernel_rfl) (by assumption) (by kernel_rfl) rfl (by simp) (by rfl) ?_ (fun hU => ?_)
              rotate_left 1
              · (intro wq hq; go_simp; try with_reducible rfl)
              simp only [Act.put, List.getElem_toArray, List.getElem_cons_zero, List.getElem_cons_succ, List.setIfInBounds_toArray, List.set_cons_zero, List.set_cons_succ]
              refine AnyU.take (i := 6) (v := ?_) rfl (by kernel_rfl) (by kernel_rfl) (by kernel_rfl) (fun _ _ _ h => h) (by kernel_rfl) (by assumption) (by rfl) ?_ (fun hU => ?_)
              rotate_left 1
              · (intro wq; go_simp; try with_reducible rfl)
              simp only [Act.put, List.getElem_toArray, List.getElem_cons_zero, List.getElem_cons_succ, List.setIfInBounds_toArray, List.set_cons_zero, List.set_cons_succ]
              refine AnyU.loadc (i := 7) (d := 11) [9, 10, 11] (Si := fun w' => w'.cell? ⟨w.heap.size + 1, 6, none⟩ = some (.slice (some ⟨b2, o2, none⟩) b.subs.length sc')) (v := ?_) rfl (by kernel_rfl) (by kernel_rfl) (by kernel_rfl) (fun _ _ _ h => h) (by kernel_rfl) (by assumption) (by kernel_rfl) rfl (by simp) (by rfl) ?_ (fun hU => ?_)
              rotate_left 1
              · (intro wq hq; go_simp; try with_reducible rfl)
              simp only [Act.put, List.getElem_toArray, List.getElem_cons_zero, List.getElem_cons_succ, List.setIfInBounds_toArray, List.set_cons_zero, List.set_cons_succ]
              refine AnyU.take (i := 8) (v := ?_) rfl (by kernel_rfl) (by kernel_rfl) (by kernel_rfl) (fun _ _ _ h => h) (by kernel_rfl) (by assumption) (by rfl) ?_ (fun hU => ?_)
              rotate_left 1
              · (intro wq; go_simp; try with_reducible rfl)
              simp only [Act.put, List.getElem_toArray, List.getElem_cons_zero, List.getElem_cons_succ, List.setIfInBounds_toArray, List.set_cons_zero, List.set_cons_succ]
              refine AnyU.take (i := 9) (v := ?_) rfl (by kernel_rfl) (by kernel_rfl) (by kernel_rfl) (fun _ _ _ h => h) (by kernel_rfl) (by assumption) (by rfl) ?_ (fun hU => ?_)
              rotate_left 1
              · (intro wq; go_simp; try with_reducible rfl)
              simp only [Act.put, List.getElem_toArray, List.getElem_cons_zero, List.getElem_cons_succ, List.setIfInBounds_toArray, List.set_cons_zero, List.set_cons_succ]
              refine AnyU.loadc (i := 10) (d := 11) [11] (Si := fun w' => w'.cell? ⟨b2, o2 + k2 * 7, none⟩ = some (.int .i64 b.subs[k2].kind) ∧ w'.cell? ⟨b2, o2 + k2 * 7 + 1, none⟩ = some (.string b.subs[k2].pkg) ∧ w'.cell? ⟨b2, o2 + k2 * 7 + 2, none⟩ = some (.int .i64 b.subs[k2].major) ∧ w'.cell? ⟨b2, o2 + k2 * 7 + 3, none⟩ = some (.string b.subs[k2].mod) ∧ w'.cell? ⟨b2, o2 + k2 * 7 + 4, none⟩ = some (.string b.subs[k2].name) ∧ w'.cell? ⟨b2, o2 + k2 * 7 + 5, none⟩ = some (.slice na2 b.subs[k2].names.length nc2) ∧ w'.cell? ⟨b2, o2 + k2 * 7 + 6, none⟩ = some (.slice sa2 b.subs[k2].subs.length sc2)) (v := ?_) rfl (by kernel_rfl) (by kernel_rfl) (by kernel_rfl) (fun _ _ _ h => h) (by kernel_rfl) (by assumption) (by kernel_rfl) rfl (by simp) (by rfl) ?_ (fun hU => ?_)
              rotate_left 1
              · (intro wq hq; obtain ⟨u0, u1, u2, u3, u4, u5, u6⟩ := hq; go_simp; try with_reducible rfl)
              simp only [Act.put, List.getElem_toArray, List.getElem_cons_zero, List.getElem_cons_succ, List.setIfInBounds_toArray, List.set_cons_zero, List.set_cons_succ]
              refine AnyU.ready1 (i := 11) (by kernel_rfl) (AnyU.one rfl fun K hK => ?_)
              go_simp
              go_at_call 40
              refine (HRq.out.putc hB HF.out (by have := HLN.out; omega) (HFB.out.each _ (List.getElem_mem hlt)) (HT2.out.toM.mono fun b hb => .inl hb)).mono ?_
              rintro e w5 ⟨na4, nc4, sa4, sc4, rfl, hb5, hr5⟩
              have ob := HRq.out.out.under hb5 HRq.out.out.lt
              have z0 := ob.cell 0
              have zf0 := ob.free 0
              have z1 := ob.cell 1
              have zf1 := ob.free 1
              have z2 := ob.cell 2
              have zf2 := ob.free 2
              have z3 := ob.cell 3
              have zf3 := ob.free 3
              have z4 := ob.cell 4
              have zf4 := ob.free 4
              have z5 := ob.cell 5
              have zf5 := ob.free 5
              have z6 := ob.cell 6
              have zf6 := ob.free 6
              simp at z0 z1 z2 z3 z4 z5 z6
              have HR5 := Lib.hid hr5
              clear ob hr5 hb5
              refine hK.out _ _ (Until.off (by kernel_rfl)) (fun hU => ?_)
              clear hK K
              try simp only [Act.put, List.getElem_toArray, List.getElem_cons_zero, List.getElem_cons_succ, List.setIfInBounds_toArray, List.set_cons_zero, List.set_cons_succ]
              refine AnyU.ready1 (i := 12) (by kernel_rfl) (AnyU.one rfl fun K hK => ?_)
              go_simp
              refine hK.out _ _ (Until.off (by kernel_rfl)) (fun hU => ?_)
              clear hK K
              try simp only [Act.put, List.getElem_toArray, List.getElem_cons_zero, List.getElem_cons_succ, List.setIfInBounds_toArray, List.set_cons_zero, List.set_cons_succ]
              refine AnyU.done (by kernel_rfl) ?_
              have hr6 := HR5.out
              generalize (((((((w5.setCell ⟨w.heap.size + 1 + 1 + 1, 0, none⟩ (.int .i64 a.kind)).setCell ⟨w.heap.size + 1 + 1 + 1, 1, none⟩ (.string { data := #[] })).setCell ⟨w.heap.size + 1 + 1 + 1, 2, none⟩ (.int .i64 0)).setCell ⟨w.heap.size + 1 + 1 + 1, 3, none⟩ (.string { data := #[] })).setCell ⟨w.heap.size + 1 + 1 + 1, 4, none⟩ (.string { data := #[] })).setCell ⟨w.heap.size + 1 + 1 + 1, 5, none⟩ (.slice na4 (putF b.names[k2] b.subs[k2] L2).length nc4)).setCell ⟨w.heap.size + 1 + 1 + 1, 6, none⟩ (.slice sa4 (putF b.names[k2] b.subs[k2] L2).length sc4)) = Wz at hr6 ⊢
              have HR6 := Lib.hid hr6
              clear hU hr6 HR5 z0 z1 z2 z3 z4 z5 z6 zf0 zf1 zf2 zf3 zf4 zf5 zf6
              go_wp2_with fail
              first
                | exact ⟨⟨k2 + 1, _, _, by omega, by go_num, HR6.out, hst.out, by have := HLN.out; have := putF_len b.names[k2] b.subs[k2] L2; omega⟩, by simp [intOf]; omega⟩
                | (go_roundw
                   case rel => exact ⟨k2 + 1, _, _, by omega, by go_num, HR6.out, hst.out, by have := HLN.out; have := putF_len b.names[k2] b.subs[k2] L2; omega⟩
                   case measure => simp [intOf]; omega)
        · have hke : k2 = b.names.length := by omega
          have hkx : ¬ (k2 : Int) < (b.names.length : Int) := by omega
          have hrs := HRS.out
          rw [hke] at hrs
          have HFIN := Lib.hid (RSt.fin HRA.out HNA.out hrs HALL3.out HKK.out)
          clear hrs hke
          have hrb := hr.res
          have z0 := hrb.cell 0
          have f0 := hrb.free 0
          have z1 := hrb.cell 1
          have f1 := hrb.free 1
          have z2 := hrb.cell 2
          have f2 := hrb.free 2
          have z3 := hrb.cell 3
          have f3 := hrb.free 3
          have z4 := hrb.cell 4
          have f4 := hrb.free 4
          have z5 := hrb.cell 5
          have f5 := hrb.free 5
          have z6 := hrb.cell 6
          have f6 := hrb.free 6
          have ob := hr.out
          have o0 := ob.cell 0
          have o1 := ob.cell 1
          have o2 := ob.cell 2
          have o3 := ob.cell 3
          have o4 := ob.cell 4
          have o5 := ob.cell 5
          have o6 := ob.cell 6
          simp at z0 z1 z2 z3 z4 z5 z6 o0 o1 o2 o3 o4 o5 o6
          rw [HK.out] at o0
          clear hrb ob hr
          go_upto_region 38 with fail
          go_region
          have hblk := put7_full (.int .i64 6) (.string { data := #[] }) (.int .i64 0) (.string { data := #[] }) (.string { data := #[] }) (.slice na7 L2.length nc7) (.slice sa7 L2.length sc7) HR.out.res
          have hbl := put7_bel (.int .i64 6) (.string { data := #[] }) (.int .i64 0) (.string { data := #[] }) (.string { data := #[] }) (.slice na7 L2.length nc7) (.slice sa7 L2.length sc7) HR.out.below (show w.heap.size ≤ w.heap.size + 1 + 1 by omega)
          have hty := rmem_last (v0 := (.int .i64 6)) (v1 := (.string { data := #[] })) (v2 := (.int .i64 0)) (v3 := (.string { data := #[] })) (v4 := (.string { data := #[] })) (v5 := (.slice na7 L2.length nc7)) (v6 := (.slice sa7 L2.length sc7)) HR.out hB
          rw [put7_zero] at hty
          rw [HK.out] at hty
          generalize (((((((wq.setCell ⟨w.heap.size + 1 + 1, 0, none⟩ (.int .i64 6)).setCell ⟨w.heap.size + 1 + 1, 1, none⟩ (.string { data := #[] })).setCell ⟨w.heap.size + 1 + 1, 2, none⟩ (.int .i64 0)).setCell ⟨w.heap.size + 1 + 1, 3, none⟩ (.string { data := #[] })).setCell ⟨w.heap.size + 1 + 1, 4, none⟩ (.string { data := #[] })).setCell ⟨w.heap.size + 1 + 1, 5, none⟩ (.slice na7 L2.length nc7)).setCell ⟨w.heap.size + 1 + 1, 6, none⟩ (.slice sa7 L2.length sc7)) = Wz at hblk hbl hty ⊢
          have p0 := hblk.cell 0
          have p1 := hblk.cell 1
          have p2 := hblk.cell 2
          have p3 := hblk.cell 3
          have p4 := hblk.cell 4
          have p5 := hblk.cell 5
          have p6 := hblk.cell 6
          simp at p0 p1 p2 p3 p4 p5 p6
          go_wp2_with fail
          refine bodyPost_ret (by simp [results, Try.results21, go_sem, p0, p1, p2, p3, p4, p5, p6]; try rfl) rfl ?_
          have hfin := HFIN.out
          rw [HK.out] at hfin
          exact ⟨⟨tyOf 6 L2, _, (by rw [hfin.1]; first | rfl | simp), hfin.2, (hty.keep (fun _ _ => rfl) : TyM Wz.drew _ _ _)⟩, hbl.drew⟩
end Go.Proofs.Ytalpmjmifcofeaa
