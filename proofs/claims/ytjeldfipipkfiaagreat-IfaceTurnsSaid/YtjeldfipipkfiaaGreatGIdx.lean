/- The contracts of slices.IndexFunc and slices.ContainsFunc at declarations, imports and strings, over any closure with one captured variable. -/
import Derived.Test.YtjeldfipipkfiaaGreatGScope
import Derived.Deep.DeepCutAuto
import Derived.Deep.Cut
import Derived.Test.YtjeldfipipkfiaaGreatGMem
namespace Go.Proofs.YtjeldfipipkfiaaGreat
open Go.RowKit
set_option linter.unusedSimpArgs false
set_option linter.unusedVariables false
theorem StrsAt.elem {w : World} {B : Nat} {A : Option Addr} {l : List ByteArray} (h : StrsAt w B A l) {k : Nat} (hk : k < l.length) {x : ByteArray} (hx : l[k] = x) : ∃ b o, A = some ⟨b, o, none⟩ ∧ b < B ∧ w.cell? ⟨b, o + k, none⟩ = some (.string x) := by
  subst hx
  rcases h with h | ⟨b, o, h1, h2, h3⟩
  · rw [h] at hk; simp at hk
  · exact ⟨b, o, h1, h2, h3 k hk⟩
def idxP {α : Type} (p : α → Bool) (l : List α) : Int := match l.findIdx? p with
  | some i => (i : Nat)
  | none => -1
theorem idxP_hit {α : Type} {p : α → Bool} {l : List α} {k : Nat} (hk : k < l.length) (h : ∀ i (h : i < l.length), i < k → p l[i] = false) (h2 : p l[k] = true) : idxP p l = (k : Nat) := by
  have : l.findIdx? p = some k := by
    rw [List.findIdx?_eq_some_iff_getElem]
    exact ⟨hk, h2, fun j hj => by simp [h j (by omega) hj]⟩
  rw [idxP, this]
theorem idxP_miss {α : Type} {p : α → Bool} {l : List α} (h : ∀ i (h : i < l.length), p l[i] = false) : idxP p l = -1 := by
  have : l.findIdx? p = none := by
    rw [List.findIdx?_eq_none_iff]
    intro x hx
    obtain ⟨i, hi, rfl⟩ := List.getElem_of_mem hx
    exact h i hi
  rw [idxP, this]
theorem idxP_any {α : Type} (p : α → Bool) (l : List α) : decide (0 ≤ idxP p l) = l.any p := by
  rw [idxP]
  cases h : l.findIdx? p with
  | none =>
    rw [List.findIdx?_eq_none_iff] at h
    have : l.any p = false := List.any_eq_false.2 fun x hx => by simp [h x hx]
    rw [this]; rfl
  | some k =>
    obtain ⟨hk, h2, -⟩ := List.findIdx?_eq_some_iff_getElem.1 h
    have : l.any p = true := List.any_eq_true.2 ⟨_, List.getElem_mem hk, h2⟩
    rw [this]
    simp
set_option maxRecDepth 100000 in
set_option maxHeartbeats 4000000 in
theorem idxDcl_c (fn : Nat) (c0_ : Value) (p : Dcl → Bool) (A : Option Addr) (c B : Nat) (l : List Dcl) (w : World) (h1 : DclsAt w B A l) (hB : B ≤ w.heap.size) (hl : l.length ≤ 1000000)
    (hfn : ∀ (a : Array Value) (w : World), (callFunc fn a).run Tryz.prog w = .ok (.enter fn a) w)
    (hp : ∀ w', Below w.heap.size w w' → ∀ x ∈ l, ∀ na nc sa sc, DclFits x → TyC w' B x.ty (tyCells x.ty na nc sa sc) → Calls Tryz.prog fn #[.agg (dclCells x na nc sa sc), c0_] w' fun e w'' => e = .returned (.bool (p x)) ∧ Below w'.heap.size w' w'') :
    Calls Tryz.prog 141 #[.slice A l.length c, .func (.func fn) #[] #[c0_]] w fun e w' => e = .returned (.int .i64 (idxP p l)) ∧ Below w.heap.size w w' := by
  obtain ⟨q, hq⟩ : ∃ q, idxP p l = q := ⟨_, rfl⟩
  rw [hq]
  have HQ := Lib.hid hq
  have H1 := Lib.hid h1
  have HP := Lib.hid hp
  clear h1 hq hp
  go_enter Tryz.func141, Tryz.ntmps141
  go_wp2
  go_loopw [8] (fun i w1 => ∃ k : Nat, k ≤ l.length ∧ i = .int .i64 k ∧ Below w.heap.size w w1 ∧ ∀ i (h : i < l.length), i < k → p l[i] = false) (fun i _ => l.length - (intOf i).toNat)
  case atStart => exact ⟨0, Nat.zero_le _, rfl, Below.refl _ _, fun i _ hi => absurd hi (by omega)⟩
  case round =>
    rename World => wr
    obtain ⟨k, hk, rfl, hacc, hall⟩ := hrel
    have HA := Lib.hid hall
    have HB := Lib.hid hacc
    clear hall hacc
    by_cases hlt : k < l.length
    · have hltI : (k : Int) < (l.length : Int) := by omega
      obtain ⟨x, hx⟩ : ∃ x, l[k] = x := ⟨_, rfl⟩
      obtain ⟨hfx, b, o, na, nc, sa, sc, rfl, hbB, hty, c0, c1, c2, c3, c4, c5, c6, c7, c8⟩ := (H1.out.under (HB.out.mono hB)).elem hlt hx
      have hbw : b < wr.heap.size := by have := HB.out.size; omega
      have HX := Lib.hid hx
      have hmem : x ∈ l := by rw [← hx]; exact List.getElem_mem hlt
      have HC := Lib.hid (HP.out wr HB.out x hmem na nc sa sc hfx hty)
      clear hx hmem
      go_wp2_with fail
      refine HC.out.mono ?_
      rintro e w1 ⟨rfl, hb1⟩
      have HB1 := Lib.hid (HB.out.trans (hb1.mono HB.out.size))
      clear hb1 HC
      obtain ⟨t, ht⟩ : ∃ t, p x = t := ⟨_, rfl⟩
      rw [ht]
      have HT := Lib.hid ht
      clear ht
      cases t
      · go_wp2_with fail
        exact ⟨⟨k + 1, by omega, by go_num, HB1.out, fun i hi hik => by
          by_cases e : i = k
          · subst e; rw [HX.out]; exact HT.out
          · exact HA.out i hi (by omega)⟩, by simp [intOf]; omega⟩
      · have hr := HQ.out.symm.trans (idxP_hit hlt HA.out (by rw [HX.out]; exact HT.out))
        subst hr
        go_wp2_with fail
        go_ret
        exact ⟨rfl, HB1.out⟩
    · obtain rfl : k = l.length := by omega
      have hltI : ¬ (l.length : Int) < (l.length : Int) := by omega
      have hr := HQ.out.symm.trans (idxP_miss fun i hi => HA.out i hi hi)
      subst hr
      go_wp2_with fail
      go_ret
      exact ⟨rfl, HB.out⟩
set_option maxHeartbeats 4000000 in
theorem conDcl_c (fn : Nat) (c0_ : Value) (p : Dcl → Bool) (A : Option Addr) (c B : Nat) (l : List Dcl) (w : World) (h1 : DclsAt w B A l) (hB : B ≤ w.heap.size) (hl : l.length ≤ 1000000)
    (hfn : ∀ (a : Array Value) (w : World), (callFunc fn a).run Tryz.prog w = .ok (.enter fn a) w)
    (hp : ∀ w', Below w.heap.size w w' → ∀ x ∈ l, ∀ na nc sa sc, DclFits x → TyC w' B x.ty (tyCells x.ty na nc sa sc) → Calls Tryz.prog fn #[.agg (dclCells x na nc sa sc), c0_] w' fun e w'' => e = .returned (.bool (p x)) ∧ Below w'.heap.size w' w'') :
    Calls Tryz.prog 128 #[.slice A l.length c, .func (.func fn) #[] #[c0_]] w fun e w' => e = .returned (.bool (l.any p)) ∧ Below w.heap.size w w' := by
  have H := Lib.hid (idxDcl_c fn c0_ p A c B l w h1 hB hl hfn hp)
  have hany := idxP_any p l
  obtain ⟨q, hq⟩ : ∃ q, idxP p l = q := ⟨_, rfl⟩
  obtain ⟨r, hr⟩ : ∃ r, l.any p = r := ⟨_, rfl⟩
  rw [hq, hr] at hany
  simp only [hq] at H
  rw [hr]
  clear hq hr h1 hp hfn
  go_enter Tryz.func128, Tryz.ntmps128
  go_wp2_with fail
  refine H.out.mono ?_
  rintro e w1 ⟨rfl, hb1⟩
  have hge : decide (q ≥ 0) = r := hany
  go_wp2_with fail
  go_ret
  first
    | exact ⟨rfl, hb1⟩
    | exact ⟨ret_b hany, hb1⟩
set_option maxRecDepth 100000 in
set_option maxHeartbeats 4000000 in
theorem idxImp_c (fn : Nat) (c0_ : Value) (p : Imp → Bool) (A : Option Addr) (c B : Nat) (l : List Imp) (w : World) (h1 : ImpsAt w B A l) (hB : B ≤ w.heap.size) (hl : l.length ≤ 1000000)
    (hfn : ∀ (a : Array Value) (w : World), (callFunc fn a).run Tryz.prog w = .ok (.enter fn a) w)
    (hp : ∀ w', Below w.heap.size w w' → ∀ x ∈ l,  Calls Tryz.prog fn #[.agg (impCells x), c0_] w' fun e w'' => e = .returned (.bool (p x)) ∧ Below w'.heap.size w' w'') :
    Calls Tryz.prog 74 #[.slice A l.length c, .func (.func fn) #[] #[c0_]] w fun e w' => e = .returned (.int .i64 (idxP p l)) ∧ Below w.heap.size w w' := by
  obtain ⟨q, hq⟩ : ∃ q, idxP p l = q := ⟨_, rfl⟩
  rw [hq]
  have HQ := Lib.hid hq
  have H1 := Lib.hid h1
  have HP := Lib.hid hp
  clear h1 hq hp
  go_enter Tryz.func74, Tryz.ntmps74
  go_wp2
  go_loopw [8] (fun i w1 => ∃ k : Nat, k ≤ l.length ∧ i = .int .i64 k ∧ Below w.heap.size w w1 ∧ ∀ i (h : i < l.length), i < k → p l[i] = false) (fun i _ => l.length - (intOf i).toNat)
  case atStart => exact ⟨0, Nat.zero_le _, rfl, Below.refl _ _, fun i _ hi => absurd hi (by omega)⟩
  case round =>
    rename World => wr
    obtain ⟨k, hk, rfl, hacc, hall⟩ := hrel
    have HA := Lib.hid hall
    have HB := Lib.hid hacc
    clear hall hacc
    by_cases hlt : k < l.length
    · have hltI : (k : Int) < (l.length : Int) := by omega
      obtain ⟨x, hx⟩ : ∃ x, l[k] = x := ⟨_, rfl⟩
      obtain ⟨-, b, o, rfl, hbB, c0, c1, c2, c3⟩ := (H1.out.under (HB.out.mono hB)).elem hlt hx
      have hbw : b < wr.heap.size := by have := HB.out.size; omega
      have HX := Lib.hid hx
      have hmem : x ∈ l := by rw [← hx]; exact List.getElem_mem hlt
      have HC := Lib.hid (HP.out wr HB.out x hmem)
      clear hx hmem
      go_wp2_with fail
      refine HC.out.mono ?_
      rintro e w1 ⟨rfl, hb1⟩
      have HB1 := Lib.hid (HB.out.trans (hb1.mono HB.out.size))
      clear hb1 HC
      obtain ⟨t, ht⟩ : ∃ t, p x = t := ⟨_, rfl⟩
      rw [ht]
      have HT := Lib.hid ht
      clear ht
      cases t
      · go_wp2_with fail
        exact ⟨⟨k + 1, by omega, by go_num, HB1.out, fun i hi hik => by
          by_cases e : i = k
          · subst e; rw [HX.out]; exact HT.out
          · exact HA.out i hi (by omega)⟩, by simp [intOf]; omega⟩
      · have hr := HQ.out.symm.trans (idxP_hit hlt HA.out (by rw [HX.out]; exact HT.out))
        subst hr
        go_wp2_with fail
        go_ret
        exact ⟨rfl, HB1.out⟩
    · obtain rfl : k = l.length := by omega
      have hltI : ¬ (l.length : Int) < (l.length : Int) := by omega
      have hr := HQ.out.symm.trans (idxP_miss fun i hi => HA.out i hi hi)
      subst hr
      go_wp2_with fail
      go_ret
      exact ⟨rfl, HB.out⟩
set_option maxHeartbeats 4000000 in
theorem conImp_c (fn : Nat) (c0_ : Value) (p : Imp → Bool) (A : Option Addr) (c B : Nat) (l : List Imp) (w : World) (h1 : ImpsAt w B A l) (hB : B ≤ w.heap.size) (hl : l.length ≤ 1000000)
    (hfn : ∀ (a : Array Value) (w : World), (callFunc fn a).run Tryz.prog w = .ok (.enter fn a) w)
    (hp : ∀ w', Below w.heap.size w w' → ∀ x ∈ l,  Calls Tryz.prog fn #[.agg (impCells x), c0_] w' fun e w'' => e = .returned (.bool (p x)) ∧ Below w'.heap.size w' w'') :
    Calls Tryz.prog 38 #[.slice A l.length c, .func (.func fn) #[] #[c0_]] w fun e w' => e = .returned (.bool (l.any p)) ∧ Below w.heap.size w w' := by
  have H := Lib.hid (idxImp_c fn c0_ p A c B l w h1 hB hl hfn hp)
  have hany := idxP_any p l
  obtain ⟨q, hq⟩ : ∃ q, idxP p l = q := ⟨_, rfl⟩
  obtain ⟨r, hr⟩ : ∃ r, l.any p = r := ⟨_, rfl⟩
  rw [hq, hr] at hany
  simp only [hq] at H
  rw [hr]
  clear hq hr h1 hp hfn
  go_enter Tryz.func38, Tryz.ntmps38
  go_wp2_with fail
  refine H.out.mono ?_
  rintro e w1 ⟨rfl, hb1⟩
  have hge : decide (q ≥ 0) = r := hany
  go_wp2_with fail
  go_ret
  first
    | exact ⟨rfl, hb1⟩
    | exact ⟨ret_b hany, hb1⟩
set_option maxRecDepth 100000 in
set_option maxHeartbeats 4000000 in
theorem idxStr_c (fn : Nat) (c0_ : Value) (p : ByteArray → Bool) (A : Option Addr) (c B : Nat) (l : List ByteArray) (w : World) (h1 : StrsAt w B A l) (hB : B ≤ w.heap.size) (hl : l.length ≤ 1000000)
    (hfn : ∀ (a : Array Value) (w : World), (callFunc fn a).run Tryz.prog w = .ok (.enter fn a) w)
    (hp : ∀ w', Below w.heap.size w w' → ∀ x ∈ l,  Calls Tryz.prog fn #[.string x, c0_] w' fun e w'' => e = .returned (.bool (p x)) ∧ Below w'.heap.size w' w'') :
    Calls Tryz.prog 144 #[.slice A l.length c, .func (.func fn) #[] #[c0_]] w fun e w' => e = .returned (.int .i64 (idxP p l)) ∧ Below w.heap.size w w' := by
  obtain ⟨q, hq⟩ : ∃ q, idxP p l = q := ⟨_, rfl⟩
  rw [hq]
  have HQ := Lib.hid hq
  have H1 := Lib.hid h1
  have HP := Lib.hid hp
  clear h1 hq hp
  go_enter Tryz.func144, Tryz.ntmps144
  go_wp2
  go_loopw [8] (fun i w1 => ∃ k : Nat, k ≤ l.length ∧ i = .int .i64 k ∧ Below w.heap.size w w1 ∧ ∀ i (h : i < l.length), i < k → p l[i] = false) (fun i _ => l.length - (intOf i).toNat)
  case atStart => exact ⟨0, Nat.zero_le _, rfl, Below.refl _ _, fun i _ hi => absurd hi (by omega)⟩
  case round =>
    rename World => wr
    obtain ⟨k, hk, rfl, hacc, hall⟩ := hrel
    have HA := Lib.hid hall
    have HB := Lib.hid hacc
    clear hall hacc
    by_cases hlt : k < l.length
    · have hltI : (k : Int) < (l.length : Int) := by omega
      obtain ⟨x, hx⟩ : ∃ x, l[k] = x := ⟨_, rfl⟩
      obtain ⟨b, o, rfl, hbB, c0⟩ := (H1.out.under (HB.out.mono hB)).elem hlt hx
      have hbw : b < wr.heap.size := by have := HB.out.size; omega
      have HX := Lib.hid hx
      have hmem : x ∈ l := by rw [← hx]; exact List.getElem_mem hlt
      have HC := Lib.hid (HP.out wr HB.out x hmem)
      clear hx hmem
      go_wp2_with fail
      refine HC.out.mono ?_
      rintro e w1 ⟨rfl, hb1⟩
      have HB1 := Lib.hid (HB.out.trans (hb1.mono HB.out.size))
      clear hb1 HC
      obtain ⟨t, ht⟩ : ∃ t, p x = t := ⟨_, rfl⟩
      rw [ht]
      have HT := Lib.hid ht
      clear ht
      cases t
      · go_wp2_with fail
        exact ⟨⟨k + 1, by omega, by go_num, HB1.out, fun i hi hik => by
          by_cases e : i = k
          · subst e; rw [HX.out]; exact HT.out
          · exact HA.out i hi (by omega)⟩, by simp [intOf]; omega⟩
      · have hr := HQ.out.symm.trans (idxP_hit hlt HA.out (by rw [HX.out]; exact HT.out))
        subst hr
        go_wp2_with fail
        go_ret
        exact ⟨rfl, HB1.out⟩
    · obtain rfl : k = l.length := by omega
      have hltI : ¬ (l.length : Int) < (l.length : Int) := by omega
      have hr := HQ.out.symm.trans (idxP_miss fun i hi => HA.out i hi hi)
      subst hr
      go_wp2_with fail
      go_ret
      exact ⟨rfl, HB.out⟩
set_option maxHeartbeats 4000000 in
theorem conStr_c (fn : Nat) (c0_ : Value) (p : ByteArray → Bool) (A : Option Addr) (c B : Nat) (l : List ByteArray) (w : World) (h1 : StrsAt w B A l) (hB : B ≤ w.heap.size) (hl : l.length ≤ 1000000)
    (hfn : ∀ (a : Array Value) (w : World), (callFunc fn a).run Tryz.prog w = .ok (.enter fn a) w)
    (hp : ∀ w', Below w.heap.size w w' → ∀ x ∈ l,  Calls Tryz.prog fn #[.string x, c0_] w' fun e w'' => e = .returned (.bool (p x)) ∧ Below w'.heap.size w' w'') :
    Calls Tryz.prog 95 #[.slice A l.length c, .func (.func fn) #[] #[c0_]] w fun e w' => e = .returned (.bool (l.any p)) ∧ Below w.heap.size w w' := by
  have H := Lib.hid (idxStr_c fn c0_ p A c B l w h1 hB hl hfn hp)
  have hany := idxP_any p l
  obtain ⟨q, hq⟩ : ∃ q, idxP p l = q := ⟨_, rfl⟩
  obtain ⟨r, hr⟩ : ∃ r, l.any p = r := ⟨_, rfl⟩
  rw [hq, hr] at hany
  simp only [hq] at H
  rw [hr]
  clear hq hr h1 hp hfn
  go_enter Tryz.func95, Tryz.ntmps95
  go_wp2_with fail
  refine H.out.mono ?_
  rintro e w1 ⟨rfl, hb1⟩
  have hge : decide (q ≥ 0) = r := hany
  go_wp2_with fail
  go_ret
  first
    | exact ⟨rfl, hb1⟩
    | exact ⟨ret_b hany, hb1⟩
end Go.Proofs.YtjeldfipipkfiaaGreat
namespace Go.Proofs.YtjeldfipipkfiaaGreat
open Go.RowKit
set_option linter.unusedSimpArgs false
set_option linter.unusedVariables false
set_option maxRecDepth 100000 in
set_option maxHeartbeats 4000000 in
theorem find1_c (x : Dcl) (nm : ByteArray) (nb : Nat) (na : Option Addr) (nc : Nat) (sa : Option Addr) (sc : Nat) (w : World) (hn : w.cell? ⟨nb, 0, none⟩ = some (.string nm)) (hlt : nb < w.heap.size) :
    Calls Tryz.prog 161 #[.agg (dclCells x na nc sa sc), .pointer (some ⟨nb, 0, none⟩)] w fun e w' => e = .returned (.bool (isT nm x)) ∧ Below w.heap.size w w' := by
  obtain ⟨v, hv⟩ : ∃ v, isT nm x = v := ⟨_, rfl⟩
  rw [hv]
  have HV := Lib.hid hv
  clear hv
  unfold dclCells
  go_enter Tryz.func161, Tryz.ntmps161
  go_upto_region 1 with fail
  have hb := (Below.refl w.heap.size w).alloc (Nat.le_refl _) (.cells #[.int .i64 x.kind, .string x.name, .int .i64 x.ty.kind, .string x.ty.pkg, .int .i64 x.ty.major, .string x.ty.mod, .string x.ty.name, .slice na x.ty.names.length nc, .slice sa x.ty.subs.length sc] 55)
  have d0 := Blk.new w #[.int .i64 x.kind, .string x.name, .int .i64 x.ty.kind, .string x.ty.pkg, .int .i64 x.ty.major, .string x.ty.mod, .string x.ty.name, .slice na x.ty.names.length nc, .slice sa x.ty.subs.length sc] 55
  generalize w.alloc (.cells #[.int .i64 x.kind, .string x.name, .int .i64 x.ty.kind, .string x.ty.pkg, .int .i64 x.ty.major, .string x.ty.mod, .string x.ty.name, .slice na x.ty.names.length nc, .slice sa x.ty.subs.length sc] 55) = W at hb d0 ⊢
  have k0 := d0.cell 0
  have k1 := d0.cell 1
  simp at k0 k1
  have kn := (hb.cell (p := ⟨nb, 0, none⟩) hlt).trans hn
  have HB := Lib.hid hb
  have kl := d0.lt
  clear hb d0 hn
  go_wp2_with fail
  · rename x.kind = 4 => h4
    go_ret
    exact ⟨ret_b ((show isT nm x = false by simp [isT, h4]).symm.trans HV.out), HB.out⟩
  · go_ret
    exact ⟨ret_b HV.out, HB.out⟩
theorem findF_idx (m : Mdl) (nm : ByteArray) : idxP (isT nm) m.decls = match findD m.decls nm with | some i => ((i : Nat) : Int) | none => -1 := rfl
set_option maxRecDepth 100000 in
set_option maxHeartbeats 4000000 in
theorem find_c (m : Mdl) (nm : ByteArray) (ia : Option Addr) (ic : Nat) (da : Option Addr) (dc B : Nat) (w : World) (hm : MdlC w B m ia ic da dc) (hB : B ≤ w.heap.size) (hl : m.decls.length ≤ 1000000) :
    Calls Tryz.prog 135 #[.agg (mdlCells m ia ic da dc), .string nm] w fun e w' => e = .returned (.int .i64 (idxP (isT nm) m.decls)) ∧ Below w.heap.size w w' := by
  have HM := Lib.hid hm
  clear hm
  unfold mdlCells
  go_enter Tryz.func135, Tryz.ntmps135
  go_upto_region 1 with fail
  have e1 : (w.alloc (.cells #[.string m.name, .slice ia m.imps.length ic, .slice da m.decls.length dc] 25)).heap.size = w.heap.size + 1 := by simp
  have hb := ((Below.refl w.heap.size w).alloc (Nat.le_refl _) (.cells #[.string m.name, .slice ia m.imps.length ic, .slice da m.decls.length dc] 25)).alloc (by simp) (.cells #[.string nm] 9)
  have d0 := (Blk.new w #[.string m.name, .slice ia m.imps.length ic, .slice da m.decls.length dc] 25).alloc (.cells #[.string nm] 9)
  have d1 := Blk.new (w.alloc (.cells #[.string m.name, .slice ia m.imps.length ic, .slice da m.decls.length dc] 25)) #[.string nm] 9
  rw [e1] at d1
  generalize (w.alloc (.cells #[.string m.name, .slice ia m.imps.length ic, .slice da m.decls.length dc] 25)).alloc (.cells #[.string nm] 9) = W at hb d0 d1 ⊢
  have k2 := d0.cell 2
  simp at k2
  have kn := d1.cell 0
  simp at kn
  have kl := d1.lt
  have KN := Lib.hid kn
  have KL := Lib.hid kl
  have HB := Lib.hid hb
  clear hb d0 d1
  go_wp2_with (go_at_call 141; refine (idxDcl_c 161 _ (isT nm) da dc B m.decls _ (HM.out.decls.under (HB.out.mono hB)) (Nat.le_trans hB HB.out.size) hl (by intro a w; rfl) (fun w' hb' x hx na nc sa sc _ _ => find1_c x nm (w.heap.size + 1) na nc sa sc w' ((hb'.cell (p := ⟨w.heap.size + 1, 0, none⟩) KL.out).trans KN.out) (Nat.lt_of_lt_of_le KL.out hb'.size))).mono ?_; rintro e w1 ⟨rfl, hb1⟩; have HB1 := Lib.hid hb1; clear hb1)
  go_ret
  exact ⟨rfl, HB.out.trans (HB1.out.mono HB.out.size)⟩
end Go.Proofs.YtjeldfipipkfiaaGreat
