/- The contracts of expand.Find, Of, and of the expander's decl, there, known, had, complete, and of expand.each; memory: an expander, interfaces, modules, types. -/
import Derived.Test.YtjeldfipipkfiaaGreatChkC
import Derived.Test.YtjeldfipipkfiaaGreatGExp
namespace Go.Proofs.YtjeldfipipkfiaaGreat
open Go.RowKit
set_option linter.unusedSimpArgs false
set_option linter.unusedVariables false
def TysAt (w : World) (B : Nat) (A : Option Addr) (l : List Ty) : Prop := ∃ f, RowsAt w B A l.length f ∧ ∀ i (h : i < l.length), TyC w B l[i] (f i)
theorem TysAt.under {w w' : World} {B : Nat} {A : Option Addr} {l : List Ty} (h : TysAt w B A l) (hb : Below B w w') : TysAt w' B A l := by
  obtain ⟨f, h1, h2⟩ := h
  exact ⟨f, h1.keep fun _ hp => hb.cell hp, fun i hi => (h2 i hi).under hb⟩
theorem TysAt.elem {w : World} {B : Nat} {A : Option Addr} {l : List Ty} (h : TysAt w B A l) {k : Nat} (hk : k < l.length) {s : Ty} (hs : l[k] = s) :
    ∃ b o na nc sa sc, A = some ⟨b, o, none⟩ ∧ b < B ∧ TyC w B s (tyCells s na nc sa sc) ∧
      w.cell? ⟨b, o + k * 7, none⟩ = some (.int .i64 s.kind) ∧ w.cell? ⟨b, o + k * 7 + 1, none⟩ = some (.string s.pkg) ∧ w.cell? ⟨b, o + k * 7 + 2, none⟩ = some (.int .i64 s.major) ∧
      w.cell? ⟨b, o + k * 7 + 3, none⟩ = some (.string s.mod) ∧ w.cell? ⟨b, o + k * 7 + 4, none⟩ = some (.string s.name) ∧
      w.cell? ⟨b, o + k * 7 + 5, none⟩ = some (.slice na s.names.length nc) ∧ w.cell? ⟨b, o + k * 7 + 6, none⟩ = some (.slice sa s.subs.length sc) := by
  subst hs
  obtain ⟨f, h1, h2⟩ := h
  have h3 := h2 k hk
  obtain ⟨b, o, na, nc, sa, sc, hA, hb, hf, hc⟩ := TyC.elem h1 hk h3
  rw [hf] at h3
  exact ⟨b, o, na, nc, sa, sc, hA, hb, h3, hc⟩
set_option maxRecDepth 100000 in
set_option maxHeartbeats 4000000 in
theorem idxIf_c (fn : Nat) (c0_ : Value) (p : If → Bool) (A : Option Addr) (c B : Nat) (l : List If) (w : World) (h1 : IfsAt w B A l) (hB : B ≤ w.heap.size) (hl : l.length ≤ 1000000)
    (hfn : ∀ (a : Array Value) (w : World), (callFunc fn a).run Tryz.prog w = .ok (.enter fn a) w)
    (hp : ∀ w', Below w.heap.size w w' → ∀ x ∈ l, ∀ ta tc va vc, Calls Tryz.prog fn #[.agg (ifCells x ta tc va vc), c0_] w' fun e w'' => e = .returned (.bool (p x)) ∧ Below w'.heap.size w' w'') :
    Calls Tryz.prog 123 #[.slice A l.length c, .func (.func fn) #[] #[c0_]] w fun e w' => e = .returned (.int .i64 (idxP p l)) ∧ Below w.heap.size w w' := by
  obtain ⟨q, hq⟩ : ∃ q, idxP p l = q := ⟨_, rfl⟩
  rw [hq]
  have HQ := Lib.hid hq
  have H1 := Lib.hid h1
  have HP := Lib.hid hp
  clear h1 hq hp
  go_enter Tryz.func123, Tryz.ntmps123
  go_wp2
  go_loopw [8] (fun i w1 => ∃ k : Nat, k ≤ l.length ∧ i = .int .i64 k ∧ Below w.heap.size w w1 ∧ ∀ i (h : i < l.length), i < k → p l[i] = false) (fun i _ => l.length - (intOf i).toNat)
  case atStart => exact ⟨0, Nat.zero_le _, rfl, Below.refl _ _, fun i _ hi => absurd hi (by omega)⟩
  case round =>
    rename World => wr
    obtain ⟨k, hk, rfl, hacc, hall⟩ := hrel
    have HA := Lib.hid hall
    have HB := Lib.hid hacc
    clear hall hacc
    by_cases hlt : k < l.length
    · have hltI : (k : Int) < (l.length : Int) := by omega
      obtain ⟨x, hx⟩ : ∃ x, l[k] = x := ⟨_, rfl⟩
      obtain ⟨hfx, b, o, ta, tc, va, vc, rfl, hbB, -, -, -, -, c0, c1, c2, c3, c4⟩ := (H1.out.under (HB.out.mono hB)).elem hlt hx
      have hbw : b < wr.heap.size := by have := HB.out.size; omega
      have HX := Lib.hid hx
      have hmem : x ∈ l := by rw [← hx]; exact List.getElem_mem hlt
      have HC := Lib.hid (HP.out wr HB.out x hmem ta tc va vc)
      clear hx hmem
      go_wp2_with fail
      refine HC.out.mono ?_
      rintro e w1 ⟨rfl, hb1⟩
      have HB1 := Lib.hid (HB.out.trans (hb1.mono HB.out.size))
      clear hb1 HC
      obtain ⟨t, ht⟩ : ∃ t, p x = t := ⟨_, rfl⟩
      rw [ht]
      have HT := Lib.hid ht
      clear ht
      cases t
      · go_wp2_with fail
        exact ⟨⟨k + 1, by omega, by go_num, HB1.out, fun i hi hik => by
          by_cases e : i = k
          · subst e; rw [HX.out]; exact HT.out
          · exact HA.out i hi (by omega)⟩, by simp [intOf]; omega⟩
      · have hr := HQ.out.symm.trans (idxP_hit hlt HA.out (by rw [HX.out]; exact HT.out))
        subst hr
        go_wp2_with fail
        go_ret
        exact ⟨rfl, HB1.out⟩
    · obtain rfl : k = l.length := by omega
      have hltI : ¬ (l.length : Int) < (l.length : Int) := by omega
      have hr := HQ.out.symm.trans (idxP_miss fun i hi => HA.out i hi hi)
      subst hr
      go_wp2_with fail
      go_ret
      exact ⟨rfl, HB.out⟩
set_option maxRecDepth 100000 in
set_option maxHeartbeats 4000000 in
theorem idxNm_c (fn : Nat) (c0_ : Value) (p : Nm → Bool) (A : Option Addr) (c B : Nat) (l : List Nm) (w : World) (h1 : NmsAt w B A l) (hB : B ≤ w.heap.size) (hl : l.length ≤ 1000000)
    (hfn : ∀ (a : Array Value) (w : World), (callFunc fn a).run Tryz.prog w = .ok (.enter fn a) w)
    (hp : ∀ w', Below w.heap.size w w' → ∀ x ∈ l, ∀ na nc sa sc, Calls Tryz.prog fn #[.agg (nmCells x na nc sa sc), c0_] w' fun e w'' => e = .returned (.bool (p x)) ∧ Below w'.heap.size w' w'') :
    Calls Tryz.prog 157 #[.slice A l.length c, .func (.func fn) #[] #[c0_]] w fun e w' => e = .returned (.int .i64 (idxP p l)) ∧ Below w.heap.size w w' := by
  obtain ⟨q, hq⟩ : ∃ q, idxP p l = q := ⟨_, rfl⟩
  rw [hq]
  have HQ := Lib.hid hq
  have H1 := Lib.hid h1
  have HP := Lib.hid hp
  clear h1 hq hp
  go_enter Tryz.func157, Tryz.ntmps157
  go_wp2
  go_loopw [8] (fun i w1 => ∃ k : Nat, k ≤ l.length ∧ i = .int .i64 k ∧ Below w.heap.size w w1 ∧ ∀ i (h : i < l.length), i < k → p l[i] = false) (fun i _ => l.length - (intOf i).toNat)
  case atStart => exact ⟨0, Nat.zero_le _, rfl, Below.refl _ _, fun i _ hi => absurd hi (by omega)⟩
  case round =>
    rename World => wr
    obtain ⟨k, hk, rfl, hacc, hall⟩ := hrel
    have HA := Lib.hid hall
    have HB := Lib.hid hacc
    clear hall hacc
    by_cases hlt : k < l.length
    · have hltI : (k : Int) < (l.length : Int) := by omega
      obtain ⟨x, hx⟩ : ∃ x, l[k] = x := ⟨_, rfl⟩
      obtain ⟨hfx, b, o, na, nc, sa, sc, rfl, hbB, -, c0, c1, c2, c3, c4, c5, c6, c7⟩ := (H1.out.under (HB.out.mono hB)).elem hlt hx
      have hbw : b < wr.heap.size := by have := HB.out.size; omega
      have HX := Lib.hid hx
      have hmem : x ∈ l := by rw [← hx]; exact List.getElem_mem hlt
      have HC := Lib.hid (HP.out wr HB.out x hmem na nc sa sc)
      clear hx hmem
      go_wp2_with fail
      refine HC.out.mono ?_
      rintro e w1 ⟨rfl, hb1⟩
      have HB1 := Lib.hid (HB.out.trans (hb1.mono HB.out.size))
      clear hb1 HC
      obtain ⟨t, ht⟩ : ∃ t, p x = t := ⟨_, rfl⟩
      rw [ht]
      have HT := Lib.hid ht
      clear ht
      cases t
      · go_wp2_with fail
        exact ⟨⟨k + 1, by omega, by go_num, HB1.out, fun i hi hik => by
          by_cases e : i = k
          · subst e; rw [HX.out]; exact HT.out
          · exact HA.out i hi (by omega)⟩, by simp [intOf]; omega⟩
      · have hr := HQ.out.symm.trans (idxP_hit hlt HA.out (by rw [HX.out]; exact HT.out))
        subst hr
        go_wp2_with fail
        go_ret
        exact ⟨rfl, HB1.out⟩
    · obtain rfl : k = l.length := by omega
      have hltI : ¬ (l.length : Int) < (l.length : Int) := by omega
      have hr := HQ.out.symm.trans (idxP_miss fun i hi => HA.out i hi hi)
      subst hr
      go_wp2_with fail
      go_ret
      exact ⟨rfl, HB.out⟩
set_option maxRecDepth 100000 in
set_option maxHeartbeats 4000000 in
theorem idxTy_c (fn : Nat) (c0_ : Value) (p : Ty → Bool) (A : Option Addr) (c B : Nat) (l : List Ty) (w : World) (h1 : TysAt w B A l) (hB : B ≤ w.heap.size) (hl : l.length ≤ 1000000)
    (hfn : ∀ (a : Array Value) (w : World), (callFunc fn a).run Tryz.prog w = .ok (.enter fn a) w)
    (hp : ∀ w', Below w.heap.size w w' → ∀ x ∈ l, ∀ na nc sa sc, TyC w' B x (tyCells x na nc sa sc) → Calls Tryz.prog fn #[.agg (tyCells x na nc sa sc), c0_] w' fun e w'' => e = .returned (.bool (p x)) ∧ Below w'.heap.size w' w'') :
    Calls Tryz.prog 140 #[.slice A l.length c, .func (.func fn) #[] #[c0_]] w fun e w' => e = .returned (.int .i64 (idxP p l)) ∧ Below w.heap.size w w' := by
  obtain ⟨q, hq⟩ : ∃ q, idxP p l = q := ⟨_, rfl⟩
  rw [hq]
  have HQ := Lib.hid hq
  have H1 := Lib.hid h1
  have HP := Lib.hid hp
  clear h1 hq hp
  go_enter Tryz.func140, Tryz.ntmps140
  go_wp2
  go_loopw [8] (fun i w1 => ∃ k : Nat, k ≤ l.length ∧ i = .int .i64 k ∧ Below w.heap.size w w1 ∧ ∀ i (h : i < l.length), i < k → p l[i] = false) (fun i _ => l.length - (intOf i).toNat)
  case atStart => exact ⟨0, Nat.zero_le _, rfl, Below.refl _ _, fun i _ hi => absurd hi (by omega)⟩
  case round =>
    rename World => wr
    obtain ⟨k, hk, rfl, hacc, hall⟩ := hrel
    have HA := Lib.hid hall
    have HB := Lib.hid hacc
    clear hall hacc
    by_cases hlt : k < l.length
    · have hltI : (k : Int) < (l.length : Int) := by omega
      obtain ⟨x, hx⟩ : ∃ x, l[k] = x := ⟨_, rfl⟩
      obtain ⟨b, o, na, nc, sa, sc, rfl, hbB, hty, c0, c1, c2, c3, c4, c5, c6⟩ := (H1.out.under (HB.out.mono hB)).elem hlt hx
      have hbw : b < wr.heap.size := by have := HB.out.size; omega
      have HX := Lib.hid hx
      have hmem : x ∈ l := by rw [← hx]; exact List.getElem_mem hlt
      have HC := Lib.hid (HP.out wr HB.out x hmem na nc sa sc hty)
      clear hx hmem
      go_wp2_with fail
      refine HC.out.mono ?_
      rintro e w1 ⟨rfl, hb1⟩
      have HB1 := Lib.hid (HB.out.trans (hb1.mono HB.out.size))
      clear hb1 HC
      obtain ⟨t, ht⟩ : ∃ t, p x = t := ⟨_, rfl⟩
      rw [ht]
      have HT := Lib.hid ht
      clear ht
      cases t
      · go_wp2_with fail
        exact ⟨⟨k + 1, by omega, by go_num, HB1.out, fun i hi hik => by
          by_cases e : i = k
          · subst e; rw [HX.out]; exact HT.out
          · exact HA.out i hi (by omega)⟩, by simp [intOf]; omega⟩
      · have hr := HQ.out.symm.trans (idxP_hit hlt HA.out (by rw [HX.out]; exact HT.out))
        subst hr
        go_wp2_with fail
        go_ret
        exact ⟨rfl, HB1.out⟩
    · obtain rfl : k = l.length := by omega
      have hltI : ¬ (l.length : Int) < (l.length : Int) := by omega
      have hr := HQ.out.symm.trans (idxP_miss fun i hi => HA.out i hi hi)
      subst hr
      go_wp2_with fail
      go_ret
      exact ⟨rfl, HB.out⟩
set_option maxHeartbeats 4000000 in
theorem conTy_c (fn : Nat) (c0_ : Value) (p : Ty → Bool) (A : Option Addr) (c B : Nat) (l : List Ty) (w : World) (h1 : TysAt w B A l) (hB : B ≤ w.heap.size) (hl : l.length ≤ 1000000)
    (hfn : ∀ (a : Array Value) (w : World), (callFunc fn a).run Tryz.prog w = .ok (.enter fn a) w)
    (hp : ∀ w', Below w.heap.size w w' → ∀ x ∈ l, ∀ na nc sa sc, TyC w' B x (tyCells x na nc sa sc) → Calls Tryz.prog fn #[.agg (tyCells x na nc sa sc), c0_] w' fun e w'' => e = .returned (.bool (p x)) ∧ Below w'.heap.size w' w'') :
    Calls Tryz.prog 90 #[.slice A l.length c, .func (.func fn) #[] #[c0_]] w fun e w' => e = .returned (.bool (l.any p)) ∧ Below w.heap.size w w' := by
  have H := Lib.hid (idxTy_c fn c0_ p A c B l w h1 hB hl hfn hp)
  have hany := idxP_any p l
  obtain ⟨q, hq⟩ : ∃ q, idxP p l = q := ⟨_, rfl⟩
  obtain ⟨r, hr⟩ : ∃ r, l.any p = r := ⟨_, rfl⟩
  rw [hq, hr] at hany
  simp only [hq] at H
  rw [hr]
  clear hq hr h1 hp hfn
  go_enter Tryz.func90, Tryz.ntmps90
  go_wp2_with fail
  refine H.out.mono ?_
  rintro e w1 ⟨rfl, hb1⟩
  have hge : decide (q ≥ 0) = r := hany
  go_wp2_with fail
  go_ret
  first
    | exact ⟨rfl, hb1⟩
    | exact ⟨ret_b hany, hb1⟩
theorem idx_find {α : Type} {p : α → Bool} {l : List α} : (l.find? p = none ∧ idxP p l = -1) ∨ ∃ k : Nat, ∃ h : k < l.length, l.find? p = some l[k] ∧ idxP p l = (k : Nat) := by
  cases hf : l.findIdx? p with
  | none =>
    rw [List.findIdx?_eq_none_iff] at hf
    exact .inl ⟨List.find?_eq_none.2 fun x hx => by rw [hf x hx]; decide, idxP_miss fun i hi => hf _ (List.getElem_mem hi)⟩
  | some k =>
    obtain ⟨hk1, hk2, hk3⟩ := List.findIdx?_eq_some_iff_getElem.1 hf
    exact .inr ⟨k, hk1, List.find?_eq_some_iff_getElem.2 ⟨hk2, k, hk1, rfl, fun j hj => by have := hk3 j hj; simpa using this⟩, by rw [idxP, hf]⟩
set_option maxHeartbeats 4000000 in
theorem eFind1_c (x : If) (i : Imp) (g : Nat) (ta : Option Addr) (tc : Nat) (va : Option Addr) (vc : Nat) (w : World) (hx : Blk w g (impCells i) 72) :
    Calls Tryz.prog 124 #[.agg (ifCells x ta tc va vc), .pointer (some ⟨g, 0, none⟩)] w fun e w' => e = .returned (.bool (isIf i x)) ∧ Below w.heap.size w w' := by
  obtain ⟨v, hv⟩ : ∃ v, isIf i x = v := ⟨_, rfl⟩
  rw [hv]
  have HV := Lib.hid hv
  clear hv
  unfold ifCells
  go_enter Tryz.func124, Tryz.ntmps124
  go_upto_region 1 with fail
  obtain ⟨W, hWq, d0, hb, -⟩ := laidNX w #[.string x.pkg, .int .i64 x.major, .string x.mod, .slice ta x.types.length tc, .slice va x.vals.length vc] 33
  rewrite [← hWq]; clear hWq
  have k0 := d0.cell 0
  have k1 := d0.cell 1
  have k2 := d0.cell 2
  simp at k0 k1 k2
  have dx := hx.under hb hx.lt
  simp only [impCells] at dx
  obtain ⟨i0, i1, i2, i3⟩ := cellsT4 dx
  have il := dx.lt
  have HB := Lib.hid hb
  have kl := d0.lt
  clear hb d0 hx dx
  obtain ⟨a1, h1⟩ : ∃ a, (x.pkg.toList == i.pkg.toList) = a := ⟨_, rfl⟩
  obtain ⟨a2, h2⟩ : ∃ a, (x.major == i.major) = a := ⟨_, rfl⟩
  obtain ⟨a3, h3⟩ : ∃ a, (x.mod.toList == i.mod.toList) = a := ⟨_, rfl⟩
  have hr : v = (a1 && (a2 && a3)) := by rw [← HV.out, isIf, h1, h2, h3]
  have HR := Lib.hid hr
  clear hr HV
  cases a1
  · go_wp2_with fail
    go_ret
    exact ⟨ret_b (by rw [HR.out]; rfl), HB.out⟩
  cases a2
  · go_wp2_with fail
    go_ret
    exact ⟨ret_b (by rw [HR.out]; rfl), HB.out⟩
  cases a3
  · go_wp2_with fail
    go_ret
    exact ⟨ret_b (by rw [HR.out]; rfl), HB.out⟩
  · go_wp2_with fail
    go_ret
    exact ⟨ret_b (by rw [HR.out]; rfl), HB.out⟩
theorem cellsT5 {w : World} {g : Nat} {T : TypeId} {x0 x1 x2 x3 x4 : Value} (h : Blk w g #[x0, x1, x2, x3, x4] T) :
    w.cell? ⟨g, 0, none⟩ = some x0 ∧ w.cell? ⟨g, 1, none⟩ = some x1 ∧ w.cell? ⟨g, 2, none⟩ = some x2 ∧ w.cell? ⟨g, 3, none⟩ = some x3 ∧ w.cell? ⟨g, 4, none⟩ = some x4 := ⟨h.cell 0, h.cell 1, h.cell 2, h.cell 3, h.cell 4⟩
theorem twoE (w : World) (C D : Array Value) (S T : TypeId) : Blk ((w.alloc (.cells C S)).alloc (.cells D T)) w.heap.size C S ∧ Blk ((w.alloc (.cells C S)).alloc (.cells D T)) (w.heap.size + 1) D T ∧ ((w.alloc (.cells C S)).alloc (.cells D T)).heap.size = w.heap.size + 1 + 1 ∧ Below w.heap.size w ((w.alloc (.cells C S)).alloc (.cells D T)) := by
  have z1 : (w.alloc (.cells C S)).heap.size = w.heap.size + 1 := by simp
  have b1 := Blk.new (w.alloc (.cells C S)) D T
  rw [z1] at b1
  exact ⟨(Blk.new w C S).alloc _, b1, by simp, ((Below.refl w.heap.size w).alloc (Nat.le_refl _) _).alloc (by simp) _⟩
theorem twoEX (w : World) (C D : Array Value) (S T : TypeId)  : ∃ W, W = ((w.alloc (.cells C S)).alloc (.cells D T)) ∧ Blk W w.heap.size C S ∧ Blk W (w.heap.size + 1) D T ∧ W.heap.size = w.heap.size + 1 + 1 ∧ Below w.heap.size w W :=
  ⟨_, rfl, twoE w C D S T⟩
def zIfx : If := ⟨{ data := #[] }, 0, { data := #[] }, [], []⟩
theorem zIfx_c (w : World) (B : Nat) : IfC w B zIfx #[.string { data := #[] }, .int .i64 0, .string { data := #[] }, .slice none 0 0, .slice none 0 0] :=
  ⟨⟨Nat.zero_le _, Nat.zero_le _, by simp [zIfx], Nat.zero_le _, Nat.zero_le _⟩, none, 0, none, 0, rfl, NmsAt.nil _ _ _, NmsAt.nil _ _ _, Nat.le_refl _, Nat.le_refl _⟩
theorem zT_c (w : World) (B : Nat) : TyC w B zT #[.int .i64 0, .string { data := #[] }, .int .i64 0, .string { data := #[] }, .string { data := #[] }, .slice none 0 0, .slice none 0 0] :=
  .mk zT none 0 none 0 (fun _ => #[]) ⟨by simp [zT, Ty.kind], by simp [zT, Ty.major], Nat.zero_le _, Nat.zero_le _, Nat.zero_le _, Nat.zero_le _, (fun s hs => by cases hs), Nat.zero_le _⟩ (.inl rfl) (.inl rfl) (Nat.le_refl _) (Nat.le_refl _) (fun i hi => absurd hi (by simp [zT, Ty.subs]))
def zDx : Dcl := ⟨0, { data := #[] }, zT⟩
theorem zDx_c (w : World) (B : Nat) : DclC w B zDx #[.int .i64 0, .string { data := #[] }, .int .i64 0, .string { data := #[] }, .int .i64 0, .string { data := #[] }, .string { data := #[] }, .slice none 0 0, .slice none 0 0] := ⟨⟨by simp [zDx], Nat.zero_le _⟩, none, 0, none, 0, rfl, zT_c w B⟩
theorem pf5 {w : World} {g : Nat} {T : TypeId} {a0 a1 a2 a3 a4 : Value} (v0 v1 v2 v3 v4 : Value) (h : Blk w g #[a0, a1, a2, a3, a4] T) : Blk (((((w.setCell ⟨g, 0, none⟩ (v0)).setCell ⟨g, 1, none⟩ (v1)).setCell ⟨g, 2, none⟩ (v2)).setCell ⟨g, 3, none⟩ (v3)).setCell ⟨g, 4, none⟩ (v4)) g #[v0, v1, v2, v3, v4] T := by
  have := (((((h.set 0 v0).set 1 v1).set 2 v2).set 3 v3).set 4 v4)
  simpa using this
theorem pb5 {w0 w : World} {B g : Nat} (v0 v1 v2 v3 v4 : Value) (h : Below B w0 w) (hg : B ≤ g) : Below B w0 (((((w.setCell ⟨g, 0, none⟩ (v0)).setCell ⟨g, 1, none⟩ (v1)).setCell ⟨g, 2, none⟩ (v2)).setCell ⟨g, 3, none⟩ (v3)).setCell ⟨g, 4, none⟩ (v4)) := (((((h.setCell (p := ⟨g, 0, none⟩) hg v0).setCell (p := ⟨g, 1, none⟩) hg v1).setCell (p := ⟨g, 2, none⟩) hg v2).setCell (p := ⟨g, 3, none⟩) hg v3).setCell (p := ⟨g, 4, none⟩) hg v4)
theorem st5 {w0 w : World} {B g : Nat} {T : TypeId} {a0 a1 a2 a3 a4 : Value} (v0 v1 v2 v3 v4 : Value) (h : Blk w g #[a0, a1, a2, a3, a4] T) (hb : Below B w0 w) (hg : B ≤ g) : ∃ W, W = (((((w.setCell ⟨g, 0, none⟩ (v0)).setCell ⟨g, 1, none⟩ (v1)).setCell ⟨g, 2, none⟩ (v2)).setCell ⟨g, 3, none⟩ (v3)).setCell ⟨g, 4, none⟩ (v4)) ∧ Blk W g #[v0, v1, v2, v3, v4] T ∧ Below B w0 W :=
  ⟨_, rfl, pf5 v0 v1 v2 v3 v4 h, pb5 v0 v1 v2 v3 v4 hb hg⟩
theorem ps5 (w : World) {g : Nat} (v0 v1 v2 v3 v4 : Value) : (((((w.setCell ⟨g, 0, none⟩ (v0)).setCell ⟨g, 1, none⟩ (v1)).setCell ⟨g, 2, none⟩ (v2)).setCell ⟨g, 3, none⟩ (v3)).setCell ⟨g, 4, none⟩ (v4)).heap.size = w.heap.size := by simp [World.setCell]
theorem pf7 {w : World} {g : Nat} {T : TypeId} {a0 a1 a2 a3 a4 a5 a6 : Value} (v0 v1 v2 v3 v4 v5 v6 : Value) (h : Blk w g #[a0, a1, a2, a3, a4, a5, a6] T) : Blk (((((((w.setCell ⟨g, 0, none⟩ (v0)).setCell ⟨g, 1, none⟩ (v1)).setCell ⟨g, 2, none⟩ (v2)).setCell ⟨g, 3, none⟩ (v3)).setCell ⟨g, 4, none⟩ (v4)).setCell ⟨g, 5, none⟩ (v5)).setCell ⟨g, 6, none⟩ (v6)) g #[v0, v1, v2, v3, v4, v5, v6] T := by
  have := (((((((h.set 0 v0).set 1 v1).set 2 v2).set 3 v3).set 4 v4).set 5 v5).set 6 v6)
  simpa using this
theorem pb7 {w0 w : World} {B g : Nat} (v0 v1 v2 v3 v4 v5 v6 : Value) (h : Below B w0 w) (hg : B ≤ g) : Below B w0 (((((((w.setCell ⟨g, 0, none⟩ (v0)).setCell ⟨g, 1, none⟩ (v1)).setCell ⟨g, 2, none⟩ (v2)).setCell ⟨g, 3, none⟩ (v3)).setCell ⟨g, 4, none⟩ (v4)).setCell ⟨g, 5, none⟩ (v5)).setCell ⟨g, 6, none⟩ (v6)) := (((((((h.setCell (p := ⟨g, 0, none⟩) hg v0).setCell (p := ⟨g, 1, none⟩) hg v1).setCell (p := ⟨g, 2, none⟩) hg v2).setCell (p := ⟨g, 3, none⟩) hg v3).setCell (p := ⟨g, 4, none⟩) hg v4).setCell (p := ⟨g, 5, none⟩) hg v5).setCell (p := ⟨g, 6, none⟩) hg v6)
theorem st7 {w0 w : World} {B g : Nat} {T : TypeId} {a0 a1 a2 a3 a4 a5 a6 : Value} (v0 v1 v2 v3 v4 v5 v6 : Value) (h : Blk w g #[a0, a1, a2, a3, a4, a5, a6] T) (hb : Below B w0 w) (hg : B ≤ g) : ∃ W, W = (((((((w.setCell ⟨g, 0, none⟩ (v0)).setCell ⟨g, 1, none⟩ (v1)).setCell ⟨g, 2, none⟩ (v2)).setCell ⟨g, 3, none⟩ (v3)).setCell ⟨g, 4, none⟩ (v4)).setCell ⟨g, 5, none⟩ (v5)).setCell ⟨g, 6, none⟩ (v6)) ∧ Blk W g #[v0, v1, v2, v3, v4, v5, v6] T ∧ Below B w0 W :=
  ⟨_, rfl, pf7 v0 v1 v2 v3 v4 v5 v6 h, pb7 v0 v1 v2 v3 v4 v5 v6 hb hg⟩
theorem pc7 {w : World} {g : Nat} (v0 v1 v2 v3 v4 v5 v6 : Value) {p : Addr} (hp : p.block ≠ g) : (((((((w.setCell ⟨g, 0, none⟩ (v0)).setCell ⟨g, 1, none⟩ (v1)).setCell ⟨g, 2, none⟩ (v2)).setCell ⟨g, 3, none⟩ (v3)).setCell ⟨g, 4, none⟩ (v4)).setCell ⟨g, 5, none⟩ (v5)).setCell ⟨g, 6, none⟩ (v6)).cell? p = w.cell? p := by
  rw [World.cell?_setCell_other _ _ _ _ (fun e => hp (by rw [← e])), World.cell?_setCell_other _ _ _ _ (fun e => hp (by rw [← e])), World.cell?_setCell_other _ _ _ _ (fun e => hp (by rw [← e])), World.cell?_setCell_other _ _ _ _ (fun e => hp (by rw [← e])), World.cell?_setCell_other _ _ _ _ (fun e => hp (by rw [← e])), World.cell?_setCell_other _ _ _ _ (fun e => hp (by rw [← e])), World.cell?_setCell_other _ _ _ _ (fun e => hp (by rw [← e]))]
theorem ps7 (w : World) {g : Nat} (v0 v1 v2 v3 v4 v5 v6 : Value) : (((((((w.setCell ⟨g, 0, none⟩ (v0)).setCell ⟨g, 1, none⟩ (v1)).setCell ⟨g, 2, none⟩ (v2)).setCell ⟨g, 3, none⟩ (v3)).setCell ⟨g, 4, none⟩ (v4)).setCell ⟨g, 5, none⟩ (v5)).setCell ⟨g, 6, none⟩ (v6)).heap.size = w.heap.size := by simp [World.setCell]
theorem pf9 {w : World} {g : Nat} {T : TypeId} {a0 a1 a2 a3 a4 a5 a6 a7 a8 : Value} (v0 v1 v2 v3 v4 v5 v6 v7 v8 : Value) (h : Blk w g #[a0, a1, a2, a3, a4, a5, a6, a7, a8] T) : Blk (((((((((w.setCell ⟨g, 0, none⟩ (v0)).setCell ⟨g, 1, none⟩ (v1)).setCell ⟨g, 2, none⟩ (v2)).setCell ⟨g, 3, none⟩ (v3)).setCell ⟨g, 4, none⟩ (v4)).setCell ⟨g, 5, none⟩ (v5)).setCell ⟨g, 6, none⟩ (v6)).setCell ⟨g, 7, none⟩ (v7)).setCell ⟨g, 8, none⟩ (v8)) g #[v0, v1, v2, v3, v4, v5, v6, v7, v8] T := by
  have := (((((((((h.set 0 v0).set 1 v1).set 2 v2).set 3 v3).set 4 v4).set 5 v5).set 6 v6).set 7 v7).set 8 v8)
  simpa using this
theorem pb9 {w0 w : World} {B g : Nat} (v0 v1 v2 v3 v4 v5 v6 v7 v8 : Value) (h : Below B w0 w) (hg : B ≤ g) : Below B w0 (((((((((w.setCell ⟨g, 0, none⟩ (v0)).setCell ⟨g, 1, none⟩ (v1)).setCell ⟨g, 2, none⟩ (v2)).setCell ⟨g, 3, none⟩ (v3)).setCell ⟨g, 4, none⟩ (v4)).setCell ⟨g, 5, none⟩ (v5)).setCell ⟨g, 6, none⟩ (v6)).setCell ⟨g, 7, none⟩ (v7)).setCell ⟨g, 8, none⟩ (v8)) := (((((((((h.setCell (p := ⟨g, 0, none⟩) hg v0).setCell (p := ⟨g, 1, none⟩) hg v1).setCell (p := ⟨g, 2, none⟩) hg v2).setCell (p := ⟨g, 3, none⟩) hg v3).setCell (p := ⟨g, 4, none⟩) hg v4).setCell (p := ⟨g, 5, none⟩) hg v5).setCell (p := ⟨g, 6, none⟩) hg v6).setCell (p := ⟨g, 7, none⟩) hg v7).setCell (p := ⟨g, 8, none⟩) hg v8)
theorem st9 {w0 w : World} {B g : Nat} {T : TypeId} {a0 a1 a2 a3 a4 a5 a6 a7 a8 : Value} (v0 v1 v2 v3 v4 v5 v6 v7 v8 : Value) (h : Blk w g #[a0, a1, a2, a3, a4, a5, a6, a7, a8] T) (hb : Below B w0 w) (hg : B ≤ g) : ∃ W, W = (((((((((w.setCell ⟨g, 0, none⟩ (v0)).setCell ⟨g, 1, none⟩ (v1)).setCell ⟨g, 2, none⟩ (v2)).setCell ⟨g, 3, none⟩ (v3)).setCell ⟨g, 4, none⟩ (v4)).setCell ⟨g, 5, none⟩ (v5)).setCell ⟨g, 6, none⟩ (v6)).setCell ⟨g, 7, none⟩ (v7)).setCell ⟨g, 8, none⟩ (v8)) ∧ Blk W g #[v0, v1, v2, v3, v4, v5, v6, v7, v8] T ∧ Below B w0 W :=
  ⟨_, rfl, pf9 v0 v1 v2 v3 v4 v5 v6 v7 v8 h, pb9 v0 v1 v2 v3 v4 v5 v6 v7 v8 hb hg⟩
set_option maxRecDepth 100000 in
set_option maxHeartbeats 8000000 in
theorem eFind_c (env : List If) (i : Imp) (ea : Option Addr) (ec B : Nat) (w : World) (he : IfsAt w B ea env) (hB : B ≤ w.heap.size) (hl : env.length ≤ 1000000) :
    Calls Tryz.prog 76 #[.slice ea env.length ec, .agg (impCells i)] w fun e w' => ∃ cs, e = .returned (.tuple #[.agg cs, .bool (env.find? (isIf i)).isSome]) ∧ IfC w' B ((env.find? (isIf i)).getD zIfx) cs ∧ Below w.heap.size w w' := by
  have HE := Lib.hid he
  obtain ⟨R, hR⟩ : ∃ R, env.find? (isIf i) = R := ⟨_, rfl⟩
  rw [hR]
  have HR := Lib.hid hR
  clear he hR
  unfold impCells
  go_enter Tryz.func76, Tryz.ntmps76
  go_upto_region 1 with fail
  obtain ⟨W, hWq, d0, d1, hz, hb⟩ := twoEX w #[.string i.pkg, .int .i64 i.major, .string i.mod, .string i.asN] #[.string { data := #[] }, .int .i64 0, .string { data := #[] }, .slice none 0 0, .slice none 0 0] 72 33
  rewrite [← hWq]; clear hWq
  have HB := Lib.hid hb
  have D0 := Lib.hid d0
  have D1 := Lib.hid d1
  clear hb d0 d1
  have HC := Lib.hid (idxIf_c 124 (.pointer (some ⟨w.heap.size, 0, none⟩)) (isIf i) ea ec B env W (HE.out.under (HB.out.mono hB)) (Nat.le_trans hB HB.out.size) hl (by intro a w; rfl) (fun w' hb' x hx ta tc va vc => eFind1_c x i w.heap.size ta tc va vc w' (D0.out.under hb' D0.out.lt)))
  rcases idx_find (p := isIf i) (l := env) with ⟨hf, hq⟩ | ⟨k, hk, hf, hq⟩
  · rw [hq] at HC
    obtain rfl : R = none := HR.out.symm.trans hf
    clear hf hq
    go_upto_region 2 with (go_at_call 123; refine HC.out.mono ?_; rintro e w1 ⟨rfl, hb1⟩; have B1 := Lib.hid hb1; clear hb1)
    have E1 := Lib.hid (D1.out.under B1.out D1.out.lt)
    obtain ⟨e0, e1, e2, e3, e4⟩ := cellsT5 E1.out
    have f0 := E1.out.free 0
    have f1 := E1.out.free 1
    have f2 := E1.out.free 2
    have f3 := E1.out.free 3
    have f4 := E1.out.free 4
    have le := E1.out.lt
    go_wp2_with fail
    obtain ⟨Wz, hWq, hp, hbp⟩ := st5 (.string { data := #[] }) (.int .i64 0) (.string { data := #[] }) (.slice none 0 0) (.slice none 0 0) E1.out (HB.out.trans (B1.out.mono HB.out.size)) (Nat.le_succ _)
    rewrite [← hWq]; clear hWq
    obtain ⟨r0, r1, r2, r3, r4⟩ := cellsT5 hp
    refine bodyPost_ret (by simp [results, Tryz.results76, go_sem, r0, r1, r2, r3, r4]; try rfl) rfl ?_
    exact ⟨_, rfl, zIfx_c _ _, hbp⟩
  · obtain ⟨x, hx⟩ : ∃ x, env[k] = x := ⟨_, rfl⟩
    rw [hq] at HC
    obtain rfl : R = some x := HR.out.symm.trans (hf.trans (by rw [hx]))
    have HX := Lib.hid hx
    clear hf hq hx
    go_upto_region 2 with (go_at_call 123; refine HC.out.mono ?_; rintro e w1 ⟨rfl, hb1⟩; have B1 := Lib.hid hb1; clear hb1)
    have E1 := Lib.hid (D1.out.under B1.out D1.out.lt)
    obtain ⟨e0, e1, e2, e3, e4⟩ := cellsT5 E1.out
    have f0 := E1.out.free 0
    have f1 := E1.out.free 1
    have f2 := E1.out.free 2
    have f3 := E1.out.free 3
    have f4 := E1.out.free 4
    have le := E1.out.lt
    have BW := Lib.hid (HB.out.trans (B1.out.mono HB.out.size))
    obtain ⟨hfx, b, o, ta, tc, va, vc, hea, hbB, hT, hV, hl1, hl2, c0, c1, c2, c3, c4⟩ := (HE.out.under (BW.out.mono hB)).elem hk HX.out
    obtain rfl := hea
    have lb : b < w1.heap.size := by have := BW.out.size; omega
    have hkI : (k : Int) < (env.length : Int) := by omega
    have hk0 : (0 : Int) ≤ (k : Int) := by omega
    have HT := Lib.hid hT
    have HV := Lib.hid hV
    have HF := Lib.hid hfx
    clear hT hV hfx
    go_wp2_with fail
    have hcc : ∀ p : Addr, p.block < B → (((((w1.setCell ⟨w.heap.size + 1, 0, none⟩ (.string x.pkg)).setCell ⟨w.heap.size + 1, 1, none⟩ (.int .i64 x.major)).setCell ⟨w.heap.size + 1, 2, none⟩ (.string x.mod)).setCell ⟨w.heap.size + 1, 3, none⟩ (.slice ta x.types.length tc)).setCell ⟨w.heap.size + 1, 4, none⟩ (.slice va x.vals.length vc)).cell? p = w1.cell? p := fun p hp => (pb5 (B := w.heap.size + 1) (.string x.pkg) (.int .i64 x.major) (.string x.mod) (.slice ta x.types.length tc) (.slice va x.vals.length vc) (Below.refl _ w1) (Nat.le_refl _)).cell (by omega)
    have hp := pf5 (.string x.pkg) (.int .i64 x.major) (.string x.mod) (.slice ta x.types.length tc) (.slice va x.vals.length vc) E1.out
    have hbp := pb5 (.string x.pkg) (.int .i64 x.major) (.string x.mod) (.slice ta x.types.length tc) (.slice va x.vals.length vc) BW.out (Nat.le_succ _)
    generalize (((((w1.setCell ⟨w.heap.size + 1, 0, none⟩ (.string x.pkg)).setCell ⟨w.heap.size + 1, 1, none⟩ (.int .i64 x.major)).setCell ⟨w.heap.size + 1, 2, none⟩ (.string x.mod)).setCell ⟨w.heap.size + 1, 3, none⟩ (.slice ta x.types.length tc)).setCell ⟨w.heap.size + 1, 4, none⟩ (.slice va x.vals.length vc)) = Wz at hp hbp hcc ⊢
    obtain ⟨r0, r1, r2, r3, r4⟩ := cellsT5 hp
    refine bodyPost_ret (by simp [results, Tryz.results76, go_sem, r0, r1, r2, r3, r4]; try rfl) rfl ?_
    have hbz : Below w1.heap.size w1 w1 := Below.refl _ _
    exact ⟨_, rfl, ⟨HF.out, ta, tc, va, vc, rfl, HT.out.keep fun p hp => hcc p (by omega), HV.out.keep fun p hp => hcc p (by omega), hl1, hl2⟩, hbp⟩
set_option maxHeartbeats 4000000 in
theorem eOf1_c (x : Nm) (s : ByteArray) (g : Nat) (na : Option Addr) (nc : Nat) (sa : Option Addr) (sc : Nat) (w : World) (hx : Blk w g #[.string s] 9) :
    Calls Tryz.prog 158 #[.agg (nmCells x na nc sa sc), .pointer (some ⟨g, 0, none⟩)] w fun e w' => e = .returned (.bool (isNm s x)) ∧ Below w.heap.size w w' := by
  have h0 := hx.cell 0
  have hl := hx.lt
  simp at h0
  unfold nmCells
  have hb := (Below.refl w.heap.size w).alloc (Nat.le_refl _) (.cells #[.string x.name, .int .i64 x.ty.kind, .string x.ty.pkg, .int .i64 x.ty.major, .string x.ty.mod, .string x.ty.name, .slice na x.ty.names.length nc, .slice sa x.ty.subs.length sc] 57)
  have HB := Lib.hid hb
  clear hb hx
  go_enter Tryz.func158, Tryz.ntmps158
  go_wp2_with fail
  go_ret
  exact ⟨rfl, HB.out⟩
set_option maxRecDepth 100000 in
set_option maxHeartbeats 8000000 in
theorem eOf_c (l : List Nm) (s : ByteArray) (A : Option Addr) (c B : Nat) (w : World) (he : NmsAt w B A l) (hB : B ≤ w.heap.size) (hl : l.length ≤ 1000000) :
    Calls Tryz.prog 125 #[.slice A l.length c, .string s] w fun e w' => ∃ cs, e = .returned (.tuple #[.agg cs, .bool (l.find? (isNm s)).isSome]) ∧ TyC w' B (((l.find? (isNm s)).map Nm.ty).getD zT) cs ∧ Below w.heap.size w w' := by
  have HE := Lib.hid he
  obtain ⟨R, hR⟩ : ∃ R, l.find? (isNm s) = R := ⟨_, rfl⟩
  rw [hR]
  have HR := Lib.hid hR
  clear he hR
  go_enter Tryz.func125, Tryz.ntmps125
  go_upto_region 1 with fail
  obtain ⟨W, hWq, d0, d1, hz, hb⟩ := twoEX w #[.string s] #[.int .i64 0, .string { data := #[] }, .int .i64 0, .string { data := #[] }, .string { data := #[] }, .slice none 0 0, .slice none 0 0] 9 53
  rewrite [← hWq]; clear hWq
  have HB := Lib.hid hb
  have D0 := Lib.hid d0
  have D1 := Lib.hid d1
  clear hb d0 d1
  have HC := Lib.hid (idxNm_c 158 (.pointer (some ⟨w.heap.size, 0, none⟩)) (isNm s) A c B l W (HE.out.under (HB.out.mono hB)) (Nat.le_trans hB HB.out.size) hl (by intro a w; rfl) (fun w' hb' x hx na nc sa sc => eOf1_c x s w.heap.size na nc sa sc w' (D0.out.under hb' D0.out.lt)))
  rcases idx_find (p := isNm s) (l := l) with ⟨hf, hq⟩ | ⟨k, hk, hf, hq⟩
  · rw [hq] at HC
    obtain rfl : R = none := HR.out.symm.trans hf
    clear hf hq
    go_upto_region 2 with (go_at_call 157; refine HC.out.mono ?_; rintro e w1 ⟨rfl, hb1⟩; have B1 := Lib.hid hb1; clear hb1)
    have E1 := Lib.hid (D1.out.under B1.out D1.out.lt)
    obtain ⟨e0, e1, e2, e3, e4, e5, e6⟩ := cellsT7 E1.out
    have f0 := E1.out.free 0
    have f1 := E1.out.free 1
    have f2 := E1.out.free 2
    have f3 := E1.out.free 3
    have f4 := E1.out.free 4
    have f5 := E1.out.free 5
    have f6 := E1.out.free 6
    have le := E1.out.lt
    go_wp2_with fail
    obtain ⟨Wz, hWq, hp, hbp⟩ := st7 (.int .i64 0) (.string { data := #[] }) (.int .i64 0) (.string { data := #[] }) (.string { data := #[] }) (.slice none 0 0) (.slice none 0 0) E1.out (HB.out.trans (B1.out.mono HB.out.size)) (Nat.le_succ _)
    rewrite [← hWq]; clear hWq
    obtain ⟨r0, r1, r2, r3, r4, r5, r6⟩ := cellsT7 hp
    refine bodyPost_ret (by simp [results, Tryz.results125, go_sem, r0, r1, r2, r3, r4, r5, r6]; try rfl) rfl ?_
    exact ⟨_, rfl, zT_c _ _, hbp⟩
  · obtain ⟨x, hx⟩ : ∃ x, l[k] = x := ⟨_, rfl⟩
    rw [hq] at HC
    obtain rfl : R = some x := HR.out.symm.trans (hf.trans (by rw [hx]))
    have HX := Lib.hid hx
    clear hf hq hx
    go_upto_region 2 with (go_at_call 157; refine HC.out.mono ?_; rintro e w1 ⟨rfl, hb1⟩; have B1 := Lib.hid hb1; clear hb1)
    have E1 := Lib.hid (D1.out.under B1.out D1.out.lt)
    obtain ⟨e0, e1, e2, e3, e4, e5, e6⟩ := cellsT7 E1.out
    have f0 := E1.out.free 0
    have f1 := E1.out.free 1
    have f2 := E1.out.free 2
    have f3 := E1.out.free 3
    have f4 := E1.out.free 4
    have f5 := E1.out.free 5
    have f6 := E1.out.free 6
    have le := E1.out.lt
    have BW := Lib.hid (HB.out.trans (B1.out.mono HB.out.size))
    obtain ⟨hfx, b, o, na, nc, sa, sc, hea, hbB, hT, c0, c1, c2, c3, c4, c5, c6, c7⟩ := (HE.out.under (BW.out.mono hB)).elem hk HX.out
    obtain rfl := hea
    have lb : b < w1.heap.size := by have := BW.out.size; omega
    have hkI : (k : Int) < (l.length : Int) := by omega
    have hk0 : (0 : Int) ≤ (k : Int) := by omega
    have HT := Lib.hid hT
    clear hT hfx
    go_wp2_with fail
    have hcc : ∀ p : Addr, p.block < B → (((((((w1.setCell ⟨w.heap.size + 1, 0, none⟩ (.int .i64 x.ty.kind)).setCell ⟨w.heap.size + 1, 1, none⟩ (.string x.ty.pkg)).setCell ⟨w.heap.size + 1, 2, none⟩ (.int .i64 x.ty.major)).setCell ⟨w.heap.size + 1, 3, none⟩ (.string x.ty.mod)).setCell ⟨w.heap.size + 1, 4, none⟩ (.string x.ty.name)).setCell ⟨w.heap.size + 1, 5, none⟩ (.slice na x.ty.names.length nc)).setCell ⟨w.heap.size + 1, 6, none⟩ (.slice sa x.ty.subs.length sc)).cell? p = w1.cell? p := fun p hp => (pb7 (B := w.heap.size + 1) (.int .i64 x.ty.kind) (.string x.ty.pkg) (.int .i64 x.ty.major) (.string x.ty.mod) (.string x.ty.name) (.slice na x.ty.names.length nc) (.slice sa x.ty.subs.length sc) (Below.refl _ w1) (Nat.le_refl _)).cell (by omega)
    have hp := pf7 (.int .i64 x.ty.kind) (.string x.ty.pkg) (.int .i64 x.ty.major) (.string x.ty.mod) (.string x.ty.name) (.slice na x.ty.names.length nc) (.slice sa x.ty.subs.length sc) E1.out
    have hbp := pb7 (.int .i64 x.ty.kind) (.string x.ty.pkg) (.int .i64 x.ty.major) (.string x.ty.mod) (.string x.ty.name) (.slice na x.ty.names.length nc) (.slice sa x.ty.subs.length sc) BW.out (Nat.le_succ _)
    generalize (((((((w1.setCell ⟨w.heap.size + 1, 0, none⟩ (.int .i64 x.ty.kind)).setCell ⟨w.heap.size + 1, 1, none⟩ (.string x.ty.pkg)).setCell ⟨w.heap.size + 1, 2, none⟩ (.int .i64 x.ty.major)).setCell ⟨w.heap.size + 1, 3, none⟩ (.string x.ty.mod)).setCell ⟨w.heap.size + 1, 4, none⟩ (.string x.ty.name)).setCell ⟨w.heap.size + 1, 5, none⟩ (.slice na x.ty.names.length nc)).setCell ⟨w.heap.size + 1, 6, none⟩ (.slice sa x.ty.subs.length sc)) = Wz at hp hbp hcc ⊢
    obtain ⟨r0, r1, r2, r3, r4, r5, r6⟩ := cellsT7 hp
    refine bodyPost_ret (by simp [results, Tryz.results125, go_sem, r0, r1, r2, r3, r4, r5, r6]; try rfl) rfl ?_
    exact ⟨_, rfl, HT.out.keep fun p hp => hcc p (by omega), hbp⟩
structure ExA (w : World) (B X : Nat) (E : Env) (ia : Option Addr) (ic : Nat) (da : Option Addr) (dc : Nat) (ea : Option Addr) (ec : Nat) (L : Int) (g : Bool) : Prop where
  blk : Blk w X #[.string E.m.name, .slice ia E.m.imps.length ic, .slice da E.m.decls.length dc, .string E.pkg, .int .i64 E.major, .slice ea E.env.length ec, .int .i64 L, .bool g] 96
  mdl : MdlC w B E.m ia ic da dc
  env : IfsAt w B ea E.env
  low : B ≤ X
  nd : E.m.decls.length ≤ 1000000
  ni : E.m.imps.length ≤ 1000000
  ne : E.env.length ≤ 1000000
  nt : ∀ x ∈ E.env, x.types.length ≤ 1000000
theorem ExA.under {w w' : World} {B X : Nat} {E : Env} {ia : Option Addr} {ic : Nat} {da : Option Addr} {dc : Nat} {ea : Option Addr} {ec : Nat} {L : Int} {g : Bool} (h : ExA w B X E ia ic da dc ea ec L g) (hb : Below w.heap.size w w') : ExA w' B X E ia ic da dc ea ec L g :=
  ⟨h.blk.under hb h.blk.lt, h.mdl.under (hb.mono (Nat.le_trans h.low (Nat.le_of_lt h.blk.lt))), h.env.under (hb.mono (Nat.le_trans h.low (Nat.le_of_lt h.blk.lt))), h.low, h.nd, h.ni, h.ne, h.nt⟩
theorem ExA.base {w : World} {B X : Nat} {E : Env} {ia : Option Addr} {ic : Nat} {da : Option Addr} {dc : Nat} {ea : Option Addr} {ec : Nat} {L : Int} {g : Bool} (h : ExA w B X E ia ic da dc ea ec L g) : B ≤ w.heap.size := Nat.le_trans h.low (Nat.le_of_lt h.blk.lt)
set_option maxHeartbeats 4000000 in
theorem xDecl1_c (x : Dcl) (s : ByteArray) (gb : Nat) (na : Option Addr) (nc : Nat) (sa : Option Addr) (sc : Nat) (w : World) (hx : Blk w gb #[.string s] 9) :
    Calls Tryz.prog 142 #[.agg (dclCells x na nc sa sc), .pointer (some ⟨gb, 0, none⟩)] w fun e w' => e = .returned (.bool (isT s x)) ∧ Below w.heap.size w w' := by
  obtain ⟨v, hv⟩ : ∃ v, isT s x = v := ⟨_, rfl⟩
  rw [hv]
  have HV := Lib.hid hv
  clear hv
  unfold dclCells
  go_enter Tryz.func142, Tryz.ntmps142
  go_upto_region 1 with fail
  obtain ⟨W, hWq, d0, hb, -⟩ := laidNX w #[.int .i64 x.kind, .string x.name, .int .i64 x.ty.kind, .string x.ty.pkg, .int .i64 x.ty.major, .string x.ty.mod, .string x.ty.name, .slice na x.ty.names.length nc, .slice sa x.ty.subs.length sc] 55
  rewrite [← hWq]; clear hWq
  have k0 := d0.cell 0
  have k1 := d0.cell 1
  simp at k0 k1
  have kn := (hx.under hb hx.lt).cell 0
  have kl2 := (hx.under hb hx.lt).lt
  simp at kn
  have HB := Lib.hid hb
  have kl := d0.lt
  clear hb d0 hx
  go_wp2_with fail
  · rename x.kind = 4 => h4
    go_ret
    exact ⟨ret_b ((show isT s x = false by simp [isT, h4]).symm.trans HV.out), HB.out⟩
  · go_ret
    exact ⟨ret_b HV.out, HB.out⟩
set_option maxRecDepth 100000 in
set_option maxHeartbeats 8000000 in
theorem xDecl_c (B X : Nat) (E : Env) (ia : Option Addr) (ic : Nat) (da : Option Addr) (dc : Nat) (ea : Option Addr) (ec : Nat) (L : Int) (g : Bool) (s : ByteArray) (w : World) (hE : ExA w B X E ia ic da dc ea ec L g) :
    Calls Tryz.prog 92 #[.pointer (some ⟨X, 0, none⟩), .string s] w fun e w' => ∃ cs, e = .returned (.tuple #[.agg cs, .bool (declOf E.m.decls s).isSome]) ∧ DclC w' B ((declOf E.m.decls s).getD zDx) cs ∧ Below w.heap.size w w' := by
  have HE := Lib.hid hE
  obtain ⟨R, hR⟩ : ∃ R, declOf E.m.decls s = R := ⟨_, rfl⟩
  rw [hR]
  have HR := Lib.hid hR
  clear hE hR
  go_enter Tryz.func92, Tryz.ntmps92
  go_upto_region 1 with fail
  obtain ⟨W, hWq, d0, d1, hz, hb⟩ := twoEX w #[.string s] #[.int .i64 0, .string { data := #[] }, .int .i64 0, .string { data := #[] }, .int .i64 0, .string { data := #[] }, .string { data := #[] }, .slice none 0 0, .slice none 0 0] 9 55
  rewrite [← hWq]; clear hWq
  have HB := Lib.hid hb
  have D0 := Lib.hid d0
  have D1 := Lib.hid d1
  have HX0 := Lib.hid (HE.out.under (hb.mono (Nat.le_refl _)))
  have hB := HE.out.base
  have hnd := HE.out.nd
  clear hb d0 d1
  obtain ⟨x0, x1, x2, x3, x4, x5, x6, x7⟩ := cellsT8 HX0.out.blk
  have lx := HX0.out.blk.lt
  have HC := Lib.hid (idxDcl_c 142 (.pointer (some ⟨w.heap.size, 0, none⟩)) (isT s) da dc B E.m.decls W HX0.out.mdl.decls HX0.out.base hnd (by intro a w; rfl) (fun w' hb' x hx na nc sa sc _ _ => xDecl1_c x s w.heap.size na nc sa sc w' (D0.out.under hb' D0.out.lt)))
  rcases idx_find (p := isT s) (l := E.m.decls) with ⟨hf, hq⟩ | ⟨k, hk, hf, hq⟩
  · rw [hq] at HC
    obtain rfl : R = none := HR.out.symm.trans hf
    clear hf hq
    go_upto_region 2 with (go_at_call 141; refine HC.out.mono ?_; rintro e w1 ⟨rfl, hb1⟩; have B1 := Lib.hid hb1; clear hb1)
    have E1 := Lib.hid (D1.out.under B1.out D1.out.lt)
    clear x0 x1 x2 x3 x4 x5 x6 x7 lx
    obtain ⟨e0, e1, e2, e3, e4, e5, e6, e7, e8⟩ := cellsT9 E1.out
    have f0 := E1.out.free 0
    have f1 := E1.out.free 1
    have f2 := E1.out.free 2
    have f3 := E1.out.free 3
    have f4 := E1.out.free 4
    have f5 := E1.out.free 5
    have f6 := E1.out.free 6
    have f7 := E1.out.free 7
    have f8 := E1.out.free 8
    have le := E1.out.lt
    go_wp2_with fail
    obtain ⟨Wz, hWq, hp, hbp⟩ := st9 (.int .i64 0) (.string { data := #[] }) (.int .i64 0) (.string { data := #[] }) (.int .i64 0) (.string { data := #[] }) (.string { data := #[] }) (.slice none 0 0) (.slice none 0 0) E1.out (HB.out.trans (B1.out.mono HB.out.size)) (Nat.le_succ _)
    rewrite [← hWq]; clear hWq
    obtain ⟨r0, r1, r2, r3, r4, r5, r6, r7, r8⟩ := cellsT9 hp
    refine bodyPost_ret (by simp [results, Tryz.results92, go_sem, r0, r1, r2, r3, r4, r5, r6, r7, r8]; try rfl) rfl ?_
    exact ⟨_, rfl, zDx_c _ _, hbp⟩
  · obtain ⟨x, hx⟩ : ∃ x, E.m.decls[k] = x := ⟨_, rfl⟩
    rw [hq] at HC
    obtain rfl : R = some x := HR.out.symm.trans (hf.trans (by rw [hx]))
    have HX := Lib.hid hx
    clear hf hq hx
    go_upto_region 2 with (go_at_call 141; refine HC.out.mono ?_; rintro e w1 ⟨rfl, hb1⟩; have B1 := Lib.hid hb1; clear hb1)
    have E1 := Lib.hid (D1.out.under B1.out D1.out.lt)
    have HX1 := Lib.hid (HX0.out.under B1.out)
    clear x0 x1 x2 x3 x4 x5 x6 x7 lx
    obtain ⟨x0, x1, x2, x3, x4, x5, x6, x7⟩ := cellsT8 HX1.out.blk
    have lx := HX1.out.blk.lt
    obtain ⟨e0, e1, e2, e3, e4, e5, e6, e7, e8⟩ := cellsT9 E1.out
    have f0 := E1.out.free 0
    have f1 := E1.out.free 1
    have f2 := E1.out.free 2
    have f3 := E1.out.free 3
    have f4 := E1.out.free 4
    have f5 := E1.out.free 5
    have f6 := E1.out.free 6
    have f7 := E1.out.free 7
    have f8 := E1.out.free 8
    have le := E1.out.lt
    have BW := Lib.hid (HB.out.trans (B1.out.mono HB.out.size))
    obtain ⟨hfx, b, o, na, nc, sa, sc, hea, hbB, hT, c0, c1, c2, c3, c4, c5, c6, c7, c8⟩ := HX1.out.mdl.decls.elem hk HX.out
    obtain rfl := hea
    have lb : b < w1.heap.size := by have := BW.out.size; omega
    have hkI : (k : Int) < (E.m.decls.length : Int) := by omega
    have hk0 : (0 : Int) ≤ (k : Int) := by omega
    have HT := Lib.hid hT
    have HFX := Lib.hid hfx
    clear hT hfx
    go_wp2_with fail
    have hcc : ∀ p : Addr, p.block < B → (((((((((w1.setCell ⟨w.heap.size + 1, 0, none⟩ (.int .i64 x.kind)).setCell ⟨w.heap.size + 1, 1, none⟩ (.string x.name)).setCell ⟨w.heap.size + 1, 2, none⟩ (.int .i64 x.ty.kind)).setCell ⟨w.heap.size + 1, 3, none⟩ (.string x.ty.pkg)).setCell ⟨w.heap.size + 1, 4, none⟩ (.int .i64 x.ty.major)).setCell ⟨w.heap.size + 1, 5, none⟩ (.string x.ty.mod)).setCell ⟨w.heap.size + 1, 6, none⟩ (.string x.ty.name)).setCell ⟨w.heap.size + 1, 7, none⟩ (.slice na x.ty.names.length nc)).setCell ⟨w.heap.size + 1, 8, none⟩ (.slice sa x.ty.subs.length sc)).cell? p = w1.cell? p := fun p hp => (pb9 (B := w.heap.size + 1) (.int .i64 x.kind) (.string x.name) (.int .i64 x.ty.kind) (.string x.ty.pkg) (.int .i64 x.ty.major) (.string x.ty.mod) (.string x.ty.name) (.slice na x.ty.names.length nc) (.slice sa x.ty.subs.length sc) (Below.refl _ w1) (Nat.le_refl _)).cell (by omega)
    have hp := pf9 (.int .i64 x.kind) (.string x.name) (.int .i64 x.ty.kind) (.string x.ty.pkg) (.int .i64 x.ty.major) (.string x.ty.mod) (.string x.ty.name) (.slice na x.ty.names.length nc) (.slice sa x.ty.subs.length sc) E1.out
    have hbp := pb9 (.int .i64 x.kind) (.string x.name) (.int .i64 x.ty.kind) (.string x.ty.pkg) (.int .i64 x.ty.major) (.string x.ty.mod) (.string x.ty.name) (.slice na x.ty.names.length nc) (.slice sa x.ty.subs.length sc) BW.out (Nat.le_succ _)
    generalize (((((((((w1.setCell ⟨w.heap.size + 1, 0, none⟩ (.int .i64 x.kind)).setCell ⟨w.heap.size + 1, 1, none⟩ (.string x.name)).setCell ⟨w.heap.size + 1, 2, none⟩ (.int .i64 x.ty.kind)).setCell ⟨w.heap.size + 1, 3, none⟩ (.string x.ty.pkg)).setCell ⟨w.heap.size + 1, 4, none⟩ (.int .i64 x.ty.major)).setCell ⟨w.heap.size + 1, 5, none⟩ (.string x.ty.mod)).setCell ⟨w.heap.size + 1, 6, none⟩ (.string x.ty.name)).setCell ⟨w.heap.size + 1, 7, none⟩ (.slice na x.ty.names.length nc)).setCell ⟨w.heap.size + 1, 8, none⟩ (.slice sa x.ty.subs.length sc)) = Wz at hp hbp hcc ⊢
    obtain ⟨r0, r1, r2, r3, r4, r5, r6, r7, r8⟩ := cellsT9 hp
    refine bodyPost_ret (by simp [results, Tryz.results92, go_sem, r0, r1, r2, r3, r4, r5, r6, r7, r8]; try rfl) rfl ?_
    exact ⟨_, rfl, ⟨HFX.out, na, nc, sa, sc, rfl, HT.out.keep fun p hp => hcc p (by omega)⟩, hbp⟩
theorem drew_cell (w : World) (p : Addr) : w.drew.cell? p = w.cell? p := rfl
theorem thereF_none {m : Mdl} {env : List If} {l : Ty} (h : m.imps.find? (isImp l.mod) = none) : thereF m env l = (zT, false) := by rw [thereF, h]
theorem thereF_hit {m : Mdl} {env : List If} {l : Ty} {i : Imp} (h : m.imps.find? (isImp l.mod) = some i) {f : If} (hf : (env.find? (isIf i)).getD zIfx = f) {r : Option Nm} (hr : f.types.find? (isNm l.name) = r) :
    thereF m env l = ((r.map Nm.ty).getD zT, r.isSome && PlainB ((r.map Nm.ty).getD zT)) := by
  rw [thereF, h]
  show (match env.find? (isIf i) with | none => _ | some f => _) = _
  cases he : env.find? (isIf i) with
  | none =>
    rw [he] at hf
    have hf : zIfx = f := hf
    subst hf
    have : r = none := hr.symm
    subst this
    rfl
  | some x =>
    rw [he] at hf
    have hf : x = f := hf
    subst hf
    show (match x.types.find? (isNm l.name) with | none => _ | some n => _) = _
    rw [hr]
    cases r <;> rfl
theorem thereF_len {env : List If} {i : Imp} (h : ∀ x ∈ env, x.types.length ≤ 1000000) : ((env.find? (isIf i)).getD zIfx).types.length ≤ 1000000 := by
  cases he : env.find? (isIf i) with
  | none => exact Nat.zero_le _
  | some x => exact h x (List.mem_of_find?_eq_some he)
set_option maxRecDepth 100000 in
set_option maxHeartbeats 40000000 in
theorem xThere_c (B X : Nat) (E : Env) (ia : Option Addr) (ic : Nat) (da : Option Addr) (dc : Nat) (ea : Option Addr) (ec : Nat) (L : Int) (g : Bool) (t : Ty) (cs : Array Value) (w : World) (hE : ExA w B X E ia ic da dc ea ec L g) (ht : TyC w B t cs) :
    Calls Tryz.prog 143 #[.pointer (some ⟨X, 0, none⟩), .agg cs] w fun e w' => ∃ cs, e = .returned (.tuple #[.agg cs, .bool (thereF E.m E.env t).2]) ∧ TyC w' B (thereF E.m E.env t).1 cs ∧ Below w.heap.size w w' := by
  obtain ⟨na, nc, sa, sc, f0, rfl, -⟩ := ht.inv
  have HE := Lib.hid hE
  obtain ⟨⟨R1, R2⟩, hR⟩ : ∃ R, thereF E.m E.env t = R := ⟨_, rfl⟩
  rw [hR]
  have HR := Lib.hid hR
  have hB := HE.out.base
  have hni := HE.out.ni
  have hlX := HE.out.blk.lt
  clear hE hR ht
  simp only [tyCells]
  go_enter Tryz.func143, Tryz.ntmps143
  go_upto_region 1 with fail
  obtain ⟨W, hWq, d0, d1, hz, hb⟩ := twoEX w #[.int .i64 t.kind, .string t.pkg, .int .i64 t.major, .string t.mod, .string t.name, .slice na t.names.length nc, .slice sa t.subs.length sc] #[.int .i64 0, .string { data := #[] }, .int .i64 0, .string { data := #[] }, .string { data := #[] }, .slice none 0 0, .slice none 0 0] 53 53
  rewrite [← hWq]; clear hWq
  have HB := Lib.hid hb
  have D0 := Lib.hid d0
  have D1 := Lib.hid d1
  have HX0 := Lib.hid (HE.out.under hb)
  clear hb d0 d1
  obtain ⟨x0, x1, x2, x3, x4, x5, x6, x7⟩ := cellsT8 HX0.out.blk
  have lx := HX0.out.blk.lt
  go_upto_region 2 with fail
  clear x0 x1 x2 x3 x4 x5 x6 x7 lx
  go_wp2_with fail
  go_loopw [18] (fun iv wr => ∃ k : Nat, k ≤ E.m.imps.length ∧ iv = .int .i64 k ∧ Below W.heap.size W wr ∧ ∀ i (h : i < k) (h2 : i < E.m.imps.length), isImp t.mod E.m.imps[i] = false) (fun iv _ => E.m.imps.length - (intOf iv).toNat)
  case atStart => exact ⟨0, Nat.zero_le _, rfl, Below.refl _ _, fun i hi => absurd hi (by omega)⟩
  case round =>
    rename World => wr
    obtain ⟨k, hk, rfl, hbr, hall⟩ := hrel
    have HBR := Lib.hid hbr
    have HA := Lib.hid hall
    have BR := Lib.hid (HB.out.trans (hbr.mono (by omega)))
    have HXR := Lib.hid (HX0.out.under hbr)
    have DR := Lib.hid (D0.out.under hbr D0.out.lt)
    have ER := Lib.hid (D1.out.under hbr D1.out.lt)
    have hsr : w.heap.size + 1 + 1 ≤ wr.heap.size := by have := hbr.size; omega
    clear hbr hall
    by_cases hlt : k < E.m.imps.length
    · obtain ⟨x, hx⟩ : ∃ x, E.m.imps[k] = x := ⟨_, rfl⟩
      obtain ⟨hfx, b, o, hia, hbB, c0, c1, c2, c3⟩ := HXR.out.mdl.imps.elem hlt hx
      obtain rfl := hia
      have lb : b < wr.heap.size := by omega
      have hkI : (k : Int) < (E.m.imps.length : Int) := by omega
      have hk0 : (0 : Int) ≤ (k : Int) := by omega
      have HX := Lib.hid hx
      clear hx hfx
      go_upto_region 4 with fail
      clear c0 c1 c2 c3
      obtain ⟨W3, hWq, b3, hb3, hz3⟩ := laidNX wr #[.string x.pkg, .int .i64 x.major, .string x.mod, .string x.asN] 72
      rewrite [← hWq]; clear hWq
      have E3 := Lib.hid b3
      obtain ⟨y0, y1, y2, y3⟩ := cellsT4 b3
      have lg3 := b3.lt
      have q0 := (DR.out.under hb3 DR.out.lt)
      obtain ⟨k0, k1, k2, k3, k4, k5, k6⟩ := cellsT7 q0
      have lk := q0.lt
      have HX3 := Lib.hid (HXR.out.under hb3)
      have D3 := Lib.hid q0
      have F3 := Lib.hid (ER.out.under hb3 ER.out.lt)
      clear b3 q0
      obtain ⟨a, ha⟩ : ∃ a, isImp t.mod x = a := ⟨_, rfl⟩
      have HAA := Lib.hid ha
      have ha' : (x.asN.toList == t.mod.toList) = a := ha
      clear ha
      cases a
      · have HB3 := Lib.hid hb3
        clear hb3
        go_wp2_with fail
        have hnew : ∀ i (h : i < k + 1) (h2 : i < E.m.imps.length), isImp t.mod E.m.imps[i] = false := fun i hi h2 => by
          by_cases e : i = k
          · subst e; rw [HX.out]; exact HAA.out
          · exact HA.out i (by omega) h2
        first
          | exact ⟨⟨k + 1, by omega, by go_num, HBR.out.trans (HB3.out.mono HBR.out.size), hnew⟩, by simp [intOf]; omega⟩
          | (go_roundw
             case rel => exact ⟨k + 1, by omega, by go_num, HBR.out.trans (HB3.out.mono HBR.out.size), hnew⟩
             case measure => simp [intOf]; omega)
      · have hfind : E.m.imps.find? (isImp t.mod) = some x := by rw [← HX.out]; exact find_at hlt (fun i hi => HA.out i hi (by omega)) (by rw [HX.out]; exact HAA.out)
        obtain ⟨f, hf⟩ : ∃ f, (E.env.find? (isIf x)).getD zIfx = f := ⟨_, rfl⟩
        obtain ⟨r, hr⟩ : ∃ r, f.types.find? (isNm t.name) = r := ⟨_, rfl⟩
        have hres := HR.out.symm.trans (thereF_hit hfind hf hr)
        have hfl : f.types.length ≤ 1000000 := by rw [← hf]; exact thereF_len HE.out.nt
        have HF := Lib.hid hf
        have HRR := Lib.hid hr
        have HRES := Lib.hid hres
        have HFI := Lib.hid (fun w' (hb : Below W3.heap.size W3 w') => eFind_c E.env x ea ec B w' (HX3.out.env.under (hb.mono (show B ≤ W3.heap.size by omega))) (by have := hb.size; omega) HE.out.ne)
        clear hfind hf hr hres
        obtain ⟨x0, x1, x2, x3, x4, x5, x6, x7⟩ := cellsT8 HX3.out.blk
        have lx := HX3.out.blk.lt
        go_upto_region 5 with fail
        clear k0 k1 k2 k3 k4 k5 k6 lk
        go_cut [8] (fun v w7 => ∃ b7 ta tc va vc, v = .pointer (some ⟨b7, 0, none⟩) ∧ Blk w7 b7 #[.string f.pkg, .int .i64 f.major, .string f.mod, .slice ta f.types.length tc, .slice va f.vals.length vc] 33 ∧ NmsAt w7 B ta f.types ∧ f.types.length ≤ tc ∧ Below wr.heap.size wr w7)
        case first =>
          refine wp_region_until [(5, fun w' => w'.cell? ⟨X, 5, none⟩ = some (.slice ea E.env.length ec) ∧ w'.cell? ⟨wr.heap.size, 0, none⟩ = some (.string x.pkg) ∧ w'.cell? ⟨wr.heap.size, 1, none⟩ = some (.int .i64 x.major) ∧ w'.cell? ⟨wr.heap.size, 2, none⟩ = some (.string x.mod) ∧ w'.cell? ⟨wr.heap.size, 3, none⟩ = some (.string x.asN))] (by kernel_rfl) (Until.cons (fun _ => ⟨x5, y0, y1, y2, y3⟩) Until.nil) (fun hU => ?_)
          refine AnyU.take (i := 0) (v := ?_) rfl (by kernel_rfl) (by kernel_rfl) (by kernel_rfl) (fun _ _ _ h => h) (by kernel_rfl) (by assumption) (by rfl) ?_ (fun hV => ?_)
          rotate_left 1
          · (intro wq; go_simp; try with_reducible rfl)
          clear hU; have hU := hV; clear hV
          try simp only [Act.put, aput]
          refine AnyU.take (i := 1) (v := ?_) rfl (by kernel_rfl) (by kernel_rfl) (by kernel_rfl) (fun _ _ _ h => h) (by kernel_rfl) (by assumption) (by rfl) ?_ (fun hV => ?_)
          rotate_left 1
          · (intro wq; go_simp; try with_reducible rfl)
          clear hU; have hU := hV; clear hV
          try simp only [Act.put, aput]
          refine AnyU.take (i := 2) (v := ?_) rfl (by kernel_rfl) (by kernel_rfl) (by kernel_rfl) (fun _ _ _ h => h) (by kernel_rfl) (by assumption) (by rfl) ?_ (fun hV => ?_)
          rotate_left 1
          · (intro wq; go_simp; try with_reducible rfl)
          clear hU; have hU := hV; clear hV
          try simp only [Act.put, aput]
          refine AnyU.loadc (i := 3) (d := 5) [5] (Si := fun w' => w'.cell? ⟨X, 5, none⟩ = some (.slice ea E.env.length ec) ∧ w'.cell? ⟨wr.heap.size, 0, none⟩ = some (.string x.pkg) ∧ w'.cell? ⟨wr.heap.size, 1, none⟩ = some (.int .i64 x.major) ∧ w'.cell? ⟨wr.heap.size, 2, none⟩ = some (.string x.mod) ∧ w'.cell? ⟨wr.heap.size, 3, none⟩ = some (.string x.asN)) (v := ?_) rfl (by kernel_rfl) (by kernel_rfl) (by kernel_rfl) (fun _ _ _ h => h) (by kernel_rfl) (by assumption) (by kernel_rfl) rfl (by simp) (by rfl) ?_ (fun hV => ?_)
          rotate_left 1
          · (intro wq hq; obtain ⟨u, -⟩ := hq; go_simp; try with_reducible rfl)
          clear hU; have hU := hV; clear hV
          try simp only [Act.put, aput]
          refine AnyU.loadc (i := 4) (d := 5) [5] (Si := fun w' => w'.cell? ⟨X, 5, none⟩ = some (.slice ea E.env.length ec) ∧ w'.cell? ⟨wr.heap.size, 0, none⟩ = some (.string x.pkg) ∧ w'.cell? ⟨wr.heap.size, 1, none⟩ = some (.int .i64 x.major) ∧ w'.cell? ⟨wr.heap.size, 2, none⟩ = some (.string x.mod) ∧ w'.cell? ⟨wr.heap.size, 3, none⟩ = some (.string x.asN)) (v := ?_) rfl (by kernel_rfl) (by kernel_rfl) (by kernel_rfl) (fun _ _ _ h => h) (by kernel_rfl) (by assumption) (by kernel_rfl) rfl (by simp) (by rfl) ?_ (fun hV => ?_)
          rotate_left 1
          · (intro wq hq; obtain ⟨-, u0, u1, u2, u3⟩ := hq; go_simp; try with_reducible rfl)
          clear hU; have hU := hV; clear hV
          try simp only [Act.put, aput]
          refine AnyU.ready2 (i := 5) (j := 9) (by kernel_rfl) (AnyU.one rfl fun K hK => ?_) (AnyU.one rfl fun K hK => ?_)
          · go_simp
            go_at_call 76
            refine (HFI.out W3.drew ((Below.refl _ W3).drew)).mono ?_
            rintro e w2 ⟨cs, rfl, hic, hb⟩
            obtain ⟨hff, ta, tc, va, vc, rfl, hnt, hnv, hl1, hl2⟩ := hic
            simp only [HF.out] at hff hnt hnv hl1 hl2
            simp only [HF.out, ifCells]
            have hb2 : Below wr.heap.size wr w2 := (hb3.drew.trans (hb.mono (Nat.le_of_lt (by show wr.heap.size < W3.heap.size; omega))))
            have hs2 : W3.heap.size ≤ w2.heap.size := hb.size
            clear hb x5 y0 y1 y2 y3
            refine hK.out _ _ (Until.offT (by kernel_rfl)) (fun hV => ?_)
            clear hK K hU
            have hU := hV
            clear hV
            try simp only [Act.put, aput]
            refine AnyU.take (i := 6) (v := ?_) rfl (by kernel_rfl) (by kernel_rfl) (by kernel_rfl) (fun _ _ _ h => h) (by kernel_rfl) (by assumption) (by rfl) ?_ (fun hV => ?_)
            rotate_left 1
            · (intro wq; go_simp; try with_reducible rfl)
            clear hU; have hU := hV; clear hV
            try simp only [Act.put, aput]
            refine AnyU.take (i := 7) (v := ?_) rfl (by kernel_rfl) (by kernel_rfl) (by kernel_rfl) (fun _ _ _ h => h) (by kernel_rfl) (by assumption) (by rfl) ?_ (fun hV => ?_)
            rotate_left 1
            · (intro wq; go_simp; try with_reducible rfl)
            clear hU; have hU := hV; clear hV
            try simp only [Act.put, aput]
            refine AnyU.take (i := 8) (v := ?_) rfl (by kernel_rfl) (by kernel_rfl) (by kernel_rfl) (fun _ _ _ h => h) (by kernel_rfl) (by assumption) (by rfl) ?_ (fun hV => ?_)
            rotate_left 1
            · (intro wq; go_simp; try with_reducible rfl)
            clear hU; have hU := hV; clear hV
            try simp only [Act.put, aput]
            refine AnyU.ready1 (i := 9) (by kernel_rfl) (AnyU.one rfl fun K hK => ?_)
            go_simp
            obtain ⟨zb, hbz, hzs⟩ := laidN w2 #[.string { data := #[] }, .int .i64 0, .string { data := #[] }, .slice none 0 0, .slice none 0 0] 33
            generalize hX3 : w2.alloc (.cells #[.string { data := #[] }, .int .i64 0, .string { data := #[] }, .slice none 0 0, .slice none 0 0] 33) = X3 at zb hbz hzs ⊢
            clear hX3
            refine hK.out _ _ (Until.offT (by kernel_rfl)) (fun hV => ?_)
            clear hK K hU
            have hU := hV
            clear hV
            try simp only [Act.put, aput]
            have hbX : Below wr.heap.size wr X3 := hb2.trans (hbz.mono hb2.size)
            have hnt := hnt.under (hbz.mono (show B ≤ w2.heap.size by omega))
            have hw2 : wr.heap.size ≤ w2.heap.size := hb2.size
            obtain ⟨d0, d1, d2, d3, d4⟩ := cellsT5 zb
            have f0 := zb.free 0
            have f1 := zb.free 1
            have f2 := zb.free 2
            have f3 := zb.free 3
            have f4 := zb.free 4
            have ld := zb.lt
            refine AnyU.ready1 (i := 10) (by kernel_rfl) (AnyU.one rfl fun K hK => ?_)
            go_simp
            have hcc : ∀ p : Addr, p.block < B → (((((X3.setCell ⟨w2.heap.size, 0, none⟩ (.string f.pkg)).setCell ⟨w2.heap.size, 1, none⟩ (.int .i64 f.major)).setCell ⟨w2.heap.size, 2, none⟩ (.string f.mod)).setCell ⟨w2.heap.size, 3, none⟩ (.slice ta f.types.length tc)).setCell ⟨w2.heap.size, 4, none⟩ (.slice va f.vals.length vc)).cell? p = X3.cell? p := fun p hp => (pb5 (B := w2.heap.size) (.string f.pkg) (.int .i64 f.major) (.string f.mod) (.slice ta f.types.length tc) (.slice va f.vals.length vc) (Below.refl _ X3) (Nat.le_refl _)).cell (by omega)
            have hp := pf5 (.string f.pkg) (.int .i64 f.major) (.string f.mod) (.slice ta f.types.length tc) (.slice va f.vals.length vc) zb
            have hbp := pb5 (.string f.pkg) (.int .i64 f.major) (.string f.mod) (.slice ta f.types.length tc) (.slice va f.vals.length vc) hbX (show wr.heap.size ≤ w2.heap.size by omega)
            generalize (((((X3.setCell ⟨w2.heap.size, 0, none⟩ (.string f.pkg)).setCell ⟨w2.heap.size, 1, none⟩ (.int .i64 f.major)).setCell ⟨w2.heap.size, 2, none⟩ (.string f.mod)).setCell ⟨w2.heap.size, 3, none⟩ (.slice ta f.types.length tc)).setCell ⟨w2.heap.size, 4, none⟩ (.slice va f.vals.length vc)) = Wf at hp hbp hcc ⊢
            refine hK.out _ _ (Until.offT (by kernel_rfl)) (fun hV => ?_)
            clear hK K hU
            have hU := hV
            clear hV
            try simp only [Act.put, aput]
            refine AnyU.take (i := 11) (v := ?_) rfl (by kernel_rfl) (by kernel_rfl) (by kernel_rfl) (fun _ _ _ h => h) (by kernel_rfl) (by assumption) (by rfl) ?_ (fun hV => ?_)
            rotate_left 1
            · (intro wq; go_simp; try with_reducible rfl)
            clear hU; have hU := hV; clear hV
            try simp only [Act.put, aput]
            refine AnyU.done (by kernel_rfl) ?_
            go_wp2_with fail
            go_meet
            exact ⟨_, ta, tc, va, vc, rfl, hp, hnt.keep fun p hp => hcc p (by omega), hl1, hbp⟩
          · go_simp
            obtain ⟨zb, hbz, hzs⟩ := laidD W3 #[.string { data := #[] }, .int .i64 0, .string { data := #[] }, .slice none 0 0, .slice none 0 0] 33
            generalize hX3 : (W3.alloc (.cells #[.string { data := #[] }, .int .i64 0, .string { data := #[] }, .slice none 0 0, .slice none 0 0] 33)).drew = X3 at zb hbz hzs ⊢
            clear hX3
            rw [hz3] at zb
            have x5 := (hbz.cell (p := ⟨X, 5, none⟩) lx).trans x5
            have y0 := (hbz.cell (p := ⟨wr.heap.size, 0, none⟩) lg3).trans y0
            have y1 := (hbz.cell (p := ⟨wr.heap.size, 1, none⟩) lg3).trans y1
            have y2 := (hbz.cell (p := ⟨wr.heap.size, 2, none⟩) lg3).trans y2
            have y3 := (hbz.cell (p := ⟨wr.heap.size, 3, none⟩) lg3).trans y3
            refine hK.out _ _ (Until.cons (fun _ => ⟨x5, y0, y1, y2, y3⟩) Until.nil) (fun hV => ?_)
            clear hK K hU
            have hU := hV
            clear hV
            try simp only [Act.put, aput]
            refine AnyU.ready1 (i := 5) (by kernel_rfl) (AnyU.one rfl fun K hK => ?_)
            go_simp
            go_at_call 76
            refine (HFI.out X3 hbz).mono ?_
            rintro e w2 ⟨cs, rfl, hic, hb⟩
            obtain ⟨hff, ta, tc, va, vc, rfl, hnt, hnv, hl1, hl2⟩ := hic
            simp only [HF.out] at hff hnt hnv hl1 hl2
            simp only [HF.out, ifCells]
            have hbX : Below wr.heap.size wr w2 := (hb3.trans (hbz.mono (by omega))).trans (hb.mono (by omega))
            have zb := zb.under hb zb.lt
            have hs2 := hb.size
            clear hb x5 y0 y1 y2 y3
            refine hK.out _ _ (Until.offT (by kernel_rfl)) (fun hV => ?_)
            clear hK K hU
            have hU := hV
            clear hV
            try simp only [Act.put, aput]
            refine AnyU.take (i := 6) (v := ?_) rfl (by kernel_rfl) (by kernel_rfl) (by kernel_rfl) (fun _ _ _ h => h) (by kernel_rfl) (by assumption) (by rfl) ?_ (fun hV => ?_)
            rotate_left 1
            · (intro wq; go_simp; try with_reducible rfl)
            clear hU; have hU := hV; clear hV
            try simp only [Act.put, aput]
            refine AnyU.take (i := 7) (v := ?_) rfl (by kernel_rfl) (by kernel_rfl) (by kernel_rfl) (fun _ _ _ h => h) (by kernel_rfl) (by assumption) (by rfl) ?_ (fun hV => ?_)
            rotate_left 1
            · (intro wq; go_simp; try with_reducible rfl)
            clear hU; have hU := hV; clear hV
            try simp only [Act.put, aput]
            refine AnyU.take (i := 8) (v := ?_) rfl (by kernel_rfl) (by kernel_rfl) (by kernel_rfl) (fun _ _ _ h => h) (by kernel_rfl) (by assumption) (by rfl) ?_ (fun hV => ?_)
            rotate_left 1
            · (intro wq; go_simp; try with_reducible rfl)
            clear hU; have hU := hV; clear hV
            try simp only [Act.put, aput]
            obtain ⟨d0, d1, d2, d3, d4⟩ := cellsT5 zb
            have f0 := zb.free 0
            have f1 := zb.free 1
            have f2 := zb.free 2
            have f3 := zb.free 3
            have f4 := zb.free 4
            have ld := zb.lt
            refine AnyU.ready1 (i := 10) (by kernel_rfl) (AnyU.one rfl fun K hK => ?_)
            go_simp
            have hcc : ∀ p : Addr, p.block < B → (((((w2.setCell ⟨wr.heap.size + 1, 0, none⟩ (.string f.pkg)).setCell ⟨wr.heap.size + 1, 1, none⟩ (.int .i64 f.major)).setCell ⟨wr.heap.size + 1, 2, none⟩ (.string f.mod)).setCell ⟨wr.heap.size + 1, 3, none⟩ (.slice ta f.types.length tc)).setCell ⟨wr.heap.size + 1, 4, none⟩ (.slice va f.vals.length vc)).cell? p = w2.cell? p := fun p hp => (pb5 (B := wr.heap.size + 1) (.string f.pkg) (.int .i64 f.major) (.string f.mod) (.slice ta f.types.length tc) (.slice va f.vals.length vc) (Below.refl _ w2) (Nat.le_refl _)).cell (by omega)
            have hp := pf5 (.string f.pkg) (.int .i64 f.major) (.string f.mod) (.slice ta f.types.length tc) (.slice va f.vals.length vc) zb
            have hbp := pb5 (.string f.pkg) (.int .i64 f.major) (.string f.mod) (.slice ta f.types.length tc) (.slice va f.vals.length vc) hbX (show wr.heap.size ≤ wr.heap.size + 1 by omega)
            generalize (((((w2.setCell ⟨wr.heap.size + 1, 0, none⟩ (.string f.pkg)).setCell ⟨wr.heap.size + 1, 1, none⟩ (.int .i64 f.major)).setCell ⟨wr.heap.size + 1, 2, none⟩ (.string f.mod)).setCell ⟨wr.heap.size + 1, 3, none⟩ (.slice ta f.types.length tc)).setCell ⟨wr.heap.size + 1, 4, none⟩ (.slice va f.vals.length vc)) = Wf at hp hbp hcc ⊢
            refine hK.out _ _ (Until.offT (by kernel_rfl)) (fun hV => ?_)
            clear hK K hU
            have hU := hV
            clear hV
            try simp only [Act.put, aput]
            refine AnyU.take (i := 11) (v := ?_) rfl (by kernel_rfl) (by kernel_rfl) (by kernel_rfl) (fun _ _ _ h => h) (by kernel_rfl) (by assumption) (by rfl) ?_ (fun hV => ?_)
            rotate_left 1
            · (intro wq; go_simp; try with_reducible rfl)
            clear hU; have hU := hV; clear hV
            try simp only [Act.put, aput]
            refine AnyU.done (by kernel_rfl) ?_
            go_wp2_with fail
            go_meet
            exact ⟨_, ta, tc, va, vc, rfl, hp, hnt.keep fun p hp => hcc p (by omega), hl1, hbp⟩
        case rest =>
          rename World => w7
          obtain ⟨b7, ta, tc, va, vc, rfl, d7, hnt, hl1, hb7⟩ := hcut
          clear x0 x1 x2 x3 x4 x5 x6 x7 lx y0 y1 y2 y3 lg3
          have q7 := DR.out.under hb7 DR.out.lt
          have F7 := Lib.hid (ER.out.under hb7 ER.out.lt)
          obtain ⟨k0, k1, k2, k3, k4, k5, k6⟩ := cellsT7 q7
          have lk := q7.lt
          obtain ⟨i0, i1, i2, i3, i4⟩ := cellsT5 d7
          have li := d7.lt
          have HB7 := Lib.hid hb7
          have B7 := Lib.hid (BR.out.trans (hb7.mono BR.out.size))
          have hs7 : wr.heap.size ≤ w7.heap.size := hb7.size
          have HOF := Lib.hid (eOf_c f.types t.name ta tc B w7 hnt (by omega) hfl)
          rw [HRR.out] at HOF
          obtain ⟨e1, e2⟩ := Prod.mk.inj HRES.out
          rw [← e1] at HOF e2
          have E2 := Lib.hid e2
          obtain ⟨q, hq⟩ : ∃ q, r.isSome = q := ⟨_, rfl⟩
          rw [hq] at HOF E2
          clear q7 d7 hb7 hnt e1 e2 hq HRES HFI
          go_upto_region 7 with (go_at_call 125; refine HOF.out.mono ?_; rintro e w8 ⟨cs, rfl, hty, hb8⟩; obtain ⟨na5, nc5, sa5, sc5, f5, rfl, -⟩ := hty.inv; simp only [tyCells]; have HTY := Lib.hid hty; have B8 := Lib.hid hb8; clear hty hb8)
          clear k0 k1 k2 k3 k4 k5 k6 lk i0 i1 i2 i3 i4 li
          obtain ⟨W9, hWq, b9, hb9, hz9⟩ := laidNX w8 #[.int .i64 R1.kind, .string R1.pkg, .int .i64 R1.major, .string R1.mod, .string R1.name, .slice na5 R1.names.length nc5, .slice sa5 R1.subs.length sc5] 53
          rewrite [← hWq]; clear hWq
          have h78 : w7.heap.size ≤ w8.heap.size := B8.out.size
          have zb := (F7.out.under B8.out F7.out.lt).under hb9 (Nat.lt_of_lt_of_le F7.out.lt B8.out.size)
          have HY := Lib.hid (HTY.out.under (hb9.mono (show B ≤ w8.heap.size by omega)))
          have BW9 := Lib.hid ((B7.out.trans (B8.out.mono B7.out.size)).trans (hb9.mono (show w.heap.size ≤ w8.heap.size by omega)))
          obtain ⟨t0, t1, t2, t3, t4, t5, t6⟩ := cellsT7 b9
          have lt9 := b9.lt
          clear b9 hb9
          cases q
          · obtain rfl : R2 = false := E2.out
            refine wp_region_until [(6, fun w' => w'.cell? ⟨w8.heap.size, 0, none⟩ = some (.int .i64 R1.kind) ∧ w'.cell? ⟨w8.heap.size, 1, none⟩ = some (.string R1.pkg) ∧ w'.cell? ⟨w8.heap.size, 2, none⟩ = some (.int .i64 R1.major) ∧ w'.cell? ⟨w8.heap.size, 3, none⟩ = some (.string R1.mod) ∧ w'.cell? ⟨w8.heap.size, 4, none⟩ = some (.string R1.name) ∧ w'.cell? ⟨w8.heap.size, 5, none⟩ = some (.slice na5 R1.names.length nc5) ∧ w'.cell? ⟨w8.heap.size, 6, none⟩ = some (.slice sa5 R1.subs.length sc5))] (by kernel_rfl) (Until.cons (fun _ => ⟨t0, t1, t2, t3, t4, t5, t6⟩) Until.nil) (fun hU => ?_)
            refine AnyU.loadc (i := 0) (d := 6) [6] (Si := fun w' => w'.cell? ⟨w8.heap.size, 0, none⟩ = some (.int .i64 R1.kind) ∧ w'.cell? ⟨w8.heap.size, 1, none⟩ = some (.string R1.pkg) ∧ w'.cell? ⟨w8.heap.size, 2, none⟩ = some (.int .i64 R1.major) ∧ w'.cell? ⟨w8.heap.size, 3, none⟩ = some (.string R1.mod) ∧ w'.cell? ⟨w8.heap.size, 4, none⟩ = some (.string R1.name) ∧ w'.cell? ⟨w8.heap.size, 5, none⟩ = some (.slice na5 R1.names.length nc5) ∧ w'.cell? ⟨w8.heap.size, 6, none⟩ = some (.slice sa5 R1.subs.length sc5)) (v := ?_) rfl (by kernel_rfl) (by kernel_rfl) (by kernel_rfl) (fun _ _ _ h => h) (by kernel_rfl) (by assumption) (by kernel_rfl) rfl (by simp) (by rfl) ?_ (fun hV => ?_)
            rotate_left 1
            · (intro wq hq; obtain ⟨u0, u1, u2, u3, u4, u5, u6⟩ := hq; go_simp; try with_reducible rfl)
            clear hU; have hU := hV; clear hV
            try simp only [Act.put, aput]
            refine AnyU.take (i := 1) (v := ?_) rfl (by kernel_rfl) (by kernel_rfl) (by kernel_rfl) (fun _ _ _ h => h) (by kernel_rfl) (by assumption) (by rfl) ?_ (fun hV => ?_)
            rotate_left 1
            · (intro wq; go_simp; try with_reducible rfl)
            clear hU; have hU := hV; clear hV
            try simp only [Act.put, aput]
            refine AnyU.take (i := 2) (v := ?_) rfl (by kernel_rfl) (by kernel_rfl) (by kernel_rfl) (fun _ _ _ h => h) (by kernel_rfl) (by assumption) (by rfl) ?_ (fun hV => ?_)
            rotate_left 1
            · (intro wq; go_simp; try with_reducible rfl)
            clear hU; have hU := hV; clear hV
            try simp only [Act.put, aput]
            refine AnyU.skip (i := 3) rfl (by kernel_rfl) (by kernel_rfl) (by kernel_rfl) (fun _ _ _ h => h) (by kernel_rfl) (by assumption) (by rfl) (fun hV => ?_)
            clear hU; have hU := hV; clear hV
            try simp only [Act.put, aput]
            refine AnyU.skip (i := 4) rfl (by kernel_rfl) (by kernel_rfl) (by kernel_rfl) (fun _ _ _ h => h) (by kernel_rfl) (by assumption) (by rfl) (fun hV => ?_)
            clear hU; have hU := hV; clear hV
            try simp only [Act.put, aput]
            refine AnyU.take (i := 5) (v := ?_) rfl (by kernel_rfl) (by kernel_rfl) (by kernel_rfl) (fun _ _ _ h => h) (by kernel_rfl) (by assumption) (by rfl) ?_ (fun hV => ?_)
            rotate_left 1
            · (intro wq; go_simp; try with_reducible rfl)
            clear hU; have hU := hV; clear hV
            try simp only [Act.put, aput]
            obtain ⟨d0, d1, d2, d3, d4, d5, d6⟩ := cellsT7 zb
            have f0 := zb.free 0
            have f1 := zb.free 1
            have f2 := zb.free 2
            have f3 := zb.free 3
            have f4 := zb.free 4
            have f5 := zb.free 5
            have f6 := zb.free 6
            have ld := zb.lt
            refine AnyU.ready1 (i := 6) (by kernel_rfl) (AnyU.one rfl fun K hK => ?_)
            go_simp
            have hcc : ∀ p : Addr, p.block ≠ w.heap.size + 1 → (((((((W9.setCell ⟨w.heap.size + 1, 0, none⟩ (.int .i64 R1.kind)).setCell ⟨w.heap.size + 1, 1, none⟩ (.string R1.pkg)).setCell ⟨w.heap.size + 1, 2, none⟩ (.int .i64 R1.major)).setCell ⟨w.heap.size + 1, 3, none⟩ (.string R1.mod)).setCell ⟨w.heap.size + 1, 4, none⟩ (.string R1.name)).setCell ⟨w.heap.size + 1, 5, none⟩ (.slice na5 R1.names.length nc5)).setCell ⟨w.heap.size + 1, 6, none⟩ (.slice sa5 R1.subs.length sc5)).drew.cell? p = W9.cell? p := fun p hp => (drew_cell _ p).trans (pc7 (.int .i64 R1.kind) (.string R1.pkg) (.int .i64 R1.major) (.string R1.mod) (.string R1.name) (.slice na5 R1.names.length nc5) (.slice sa5 R1.subs.length sc5) hp)
            have hp := (pf7 (.int .i64 R1.kind) (.string R1.pkg) (.int .i64 R1.major) (.string R1.mod) (.string R1.name) (.slice na5 R1.names.length nc5) (.slice sa5 R1.subs.length sc5) zb).drew
            have hbp := (pb7 (.int .i64 R1.kind) (.string R1.pkg) (.int .i64 R1.major) (.string R1.mod) (.string R1.name) (.slice na5 R1.names.length nc5) (.slice sa5 R1.subs.length sc5) BW9.out (show w.heap.size ≤ w.heap.size + 1 by omega)).drew
            generalize (((((((W9.setCell ⟨w.heap.size + 1, 0, none⟩ (.int .i64 R1.kind)).setCell ⟨w.heap.size + 1, 1, none⟩ (.string R1.pkg)).setCell ⟨w.heap.size + 1, 2, none⟩ (.int .i64 R1.major)).setCell ⟨w.heap.size + 1, 3, none⟩ (.string R1.mod)).setCell ⟨w.heap.size + 1, 4, none⟩ (.string R1.name)).setCell ⟨w.heap.size + 1, 5, none⟩ (.slice na5 R1.names.length nc5)).setCell ⟨w.heap.size + 1, 6, none⟩ (.slice sa5 R1.subs.length sc5)).drew = Wf at hp hbp hcc ⊢
            refine hK.out _ _ (Until.offT (by kernel_rfl)) (fun hV => ?_)
            clear hK K hU
            have hU := hV
            clear hV
            try simp only [Act.put, aput]
            refine AnyU.take (i := 7) (v := ?_) rfl (by kernel_rfl) (by kernel_rfl) (by kernel_rfl) (fun _ _ _ h => h) (by kernel_rfl) (by assumption) (by rfl) ?_ (fun hV => ?_)
            rotate_left 1
            · (intro wq; go_simp; try with_reducible rfl)
            clear hU; have hU := hV; clear hV
            try simp only [Act.put, aput]
            refine AnyU.done (by kernel_rfl) ?_
            go_wp2_with fail
            obtain ⟨r0, r1, r2, r3, r4, r5, r6⟩ := cellsT7 hp
            refine bodyPost_ret (by simp [results, Tryz.results143, go_sem, r0, r1, r2, r3, r4, r5, r6]; try rfl) rfl ?_
            exact ⟨_, rfl, HY.out.keep fun p hp => hcc p (by omega), hbp⟩
          · have hpl : ∀ w', Below B W9 w' → B ≤ w'.heap.size → Calls Tryz.prog 56 #[.agg (tyCells R1 na5 nc5 sa5 sc5)] w' fun e w'' => e = .returned (.bool R2) ∧ Below w'.heap.size w' w'' := fun w' h1 h2 => by
              have h3 : R2 = PlainB R1 := by have := E2.out; simpa using this
              rw [h3]; exact Plain_c R1 _ B w' (HY.out.under h1) h2
            have HPL := Lib.hid hpl
            simp only [tyCells] at HPL
            clear hpl
            refine wp_region_until [(6, fun w' => w'.cell? ⟨w8.heap.size, 0, none⟩ = some (.int .i64 R1.kind) ∧ w'.cell? ⟨w8.heap.size, 1, none⟩ = some (.string R1.pkg) ∧ w'.cell? ⟨w8.heap.size, 2, none⟩ = some (.int .i64 R1.major) ∧ w'.cell? ⟨w8.heap.size, 3, none⟩ = some (.string R1.mod) ∧ w'.cell? ⟨w8.heap.size, 4, none⟩ = some (.string R1.name) ∧ w'.cell? ⟨w8.heap.size, 5, none⟩ = some (.slice na5 R1.names.length nc5) ∧ w'.cell? ⟨w8.heap.size, 6, none⟩ = some (.slice sa5 R1.subs.length sc5)), (4, fun w' => w'.cell? ⟨w8.heap.size, 0, none⟩ = some (.int .i64 R1.kind) ∧ w'.cell? ⟨w8.heap.size, 1, none⟩ = some (.string R1.pkg) ∧ w'.cell? ⟨w8.heap.size, 2, none⟩ = some (.int .i64 R1.major) ∧ w'.cell? ⟨w8.heap.size, 3, none⟩ = some (.string R1.mod) ∧ w'.cell? ⟨w8.heap.size, 4, none⟩ = some (.string R1.name) ∧ w'.cell? ⟨w8.heap.size, 5, none⟩ = some (.slice na5 R1.names.length nc5) ∧ w'.cell? ⟨w8.heap.size, 6, none⟩ = some (.slice sa5 R1.subs.length sc5))] (by kernel_rfl) (Until.cons (fun _ => ⟨t0, t1, t2, t3, t4, t5, t6⟩) (Until.cons (fun _ => ⟨t0, t1, t2, t3, t4, t5, t6⟩) Until.nil)) (fun hU => ?_)
            refine AnyU.loadc (i := 0) (d := 6) [6] (Si := fun w' => w'.cell? ⟨w8.heap.size, 0, none⟩ = some (.int .i64 R1.kind) ∧ w'.cell? ⟨w8.heap.size, 1, none⟩ = some (.string R1.pkg) ∧ w'.cell? ⟨w8.heap.size, 2, none⟩ = some (.int .i64 R1.major) ∧ w'.cell? ⟨w8.heap.size, 3, none⟩ = some (.string R1.mod) ∧ w'.cell? ⟨w8.heap.size, 4, none⟩ = some (.string R1.name) ∧ w'.cell? ⟨w8.heap.size, 5, none⟩ = some (.slice na5 R1.names.length nc5) ∧ w'.cell? ⟨w8.heap.size, 6, none⟩ = some (.slice sa5 R1.subs.length sc5)) (v := ?_) rfl (by kernel_rfl) (by kernel_rfl) (by kernel_rfl) (fun _ _ _ h => h) (by kernel_rfl) (by assumption) (by kernel_rfl) rfl (by simp) (by rfl) ?_ (fun hV => ?_)
            rotate_left 1
            · (intro wq hq; obtain ⟨u0, u1, u2, u3, u4, u5, u6⟩ := hq; go_simp; try with_reducible rfl)
            clear hU; have hU := hV; clear hV
            try simp only [Act.put, aput]
            refine AnyU.take (i := 1) (v := ?_) rfl (by kernel_rfl) (by kernel_rfl) (by kernel_rfl) (fun _ _ _ h => h) (by kernel_rfl) (by assumption) (by rfl) ?_ (fun hV => ?_)
            rotate_left 1
            · (intro wq; go_simp; try with_reducible rfl)
            clear hU; have hU := hV; clear hV
            try simp only [Act.put, aput]
            refine AnyU.take (i := 2) (v := ?_) rfl (by kernel_rfl) (by kernel_rfl) (by kernel_rfl) (fun _ _ _ h => h) (by kernel_rfl) (by assumption) (by rfl) ?_ (fun hV => ?_)
            rotate_left 1
            · (intro wq; go_simp; try with_reducible rfl)
            clear hU; have hU := hV; clear hV
            try simp only [Act.put, aput]
            refine AnyU.loadc (i := 3) (d := 4) [4] (Si := fun w' => w'.cell? ⟨w8.heap.size, 0, none⟩ = some (.int .i64 R1.kind) ∧ w'.cell? ⟨w8.heap.size, 1, none⟩ = some (.string R1.pkg) ∧ w'.cell? ⟨w8.heap.size, 2, none⟩ = some (.int .i64 R1.major) ∧ w'.cell? ⟨w8.heap.size, 3, none⟩ = some (.string R1.mod) ∧ w'.cell? ⟨w8.heap.size, 4, none⟩ = some (.string R1.name) ∧ w'.cell? ⟨w8.heap.size, 5, none⟩ = some (.slice na5 R1.names.length nc5) ∧ w'.cell? ⟨w8.heap.size, 6, none⟩ = some (.slice sa5 R1.subs.length sc5)) (v := ?_) rfl (by kernel_rfl) (by kernel_rfl) (by kernel_rfl) (fun _ _ _ h => h) (by kernel_rfl) (by assumption) (by kernel_rfl) rfl (by simp) (by rfl) ?_ (fun hV => ?_)
            rotate_left 1
            · (intro wq hq; obtain ⟨u0, u1, u2, u3, u4, u5, u6⟩ := hq; go_simp; try with_reducible rfl)
            clear hU; have hU := hV; clear hV
            try simp only [Act.put, aput]
            refine AnyU.ready1 (i := 4) (by kernel_rfl) (AnyU.one rfl fun K hK => ?_)
            go_simp
            go_at_call 56
            refine (HPL.out W9.drew ((Below.refl B W9).drew) (by show B ≤ W9.heap.size; omega)).mono ?_
            rintro e wp ⟨rfl, hb⟩
            have hb9 : Below W9.heap.size W9 wp := (Below.refl _ _).drew.trans hb
            clear hb
            have t0 := (hb9.cell (p := ⟨w8.heap.size, 0, none⟩) lt9).trans t0
            have t1 := (hb9.cell (p := ⟨w8.heap.size, 1, none⟩) lt9).trans t1
            have t2 := (hb9.cell (p := ⟨w8.heap.size, 2, none⟩) lt9).trans t2
            have t3 := (hb9.cell (p := ⟨w8.heap.size, 3, none⟩) lt9).trans t3
            have t4 := (hb9.cell (p := ⟨w8.heap.size, 4, none⟩) lt9).trans t4
            have t5 := (hb9.cell (p := ⟨w8.heap.size, 5, none⟩) lt9).trans t5
            have t6 := (hb9.cell (p := ⟨w8.heap.size, 6, none⟩) lt9).trans t6
            have zb := zb.under hb9 zb.lt
            have hy := HY.out.under (hb9.mono (show B ≤ W9.heap.size by omega))
            have hbw := BW9.out.trans (hb9.mono (show w.heap.size ≤ W9.heap.size by omega))
            refine hK.out _ _ (Until.cons (fun _ => ⟨t0, t1, t2, t3, t4, t5, t6⟩) (Until.cons (fun h => absurd h (by decide)) Until.nil)) (fun hV => ?_)
            clear hK K hU
            have hU := hV
            clear hV
            try simp only [Act.put, aput]
            refine AnyU.take (i := 5) (v := ?_) rfl (by kernel_rfl) (by kernel_rfl) (by kernel_rfl) (fun _ _ _ h => h) (by kernel_rfl) (by assumption) (by rfl) ?_ (fun hV => ?_)
            rotate_left 1
            · (intro wq; go_simp; try with_reducible rfl)
            clear hU; have hU := hV; clear hV
            try simp only [Act.put, aput]
            obtain ⟨d0, d1, d2, d3, d4, d5, d6⟩ := cellsT7 zb
            have f0 := zb.free 0
            have f1 := zb.free 1
            have f2 := zb.free 2
            have f3 := zb.free 3
            have f4 := zb.free 4
            have f5 := zb.free 5
            have f6 := zb.free 6
            have ld := zb.lt
            refine AnyU.ready1 (i := 6) (by kernel_rfl) (AnyU.one rfl fun K hK => ?_)
            go_simp
            have hcc : ∀ p : Addr, p.block ≠ w.heap.size + 1 → (((((((wp.setCell ⟨w.heap.size + 1, 0, none⟩ (.int .i64 R1.kind)).setCell ⟨w.heap.size + 1, 1, none⟩ (.string R1.pkg)).setCell ⟨w.heap.size + 1, 2, none⟩ (.int .i64 R1.major)).setCell ⟨w.heap.size + 1, 3, none⟩ (.string R1.mod)).setCell ⟨w.heap.size + 1, 4, none⟩ (.string R1.name)).setCell ⟨w.heap.size + 1, 5, none⟩ (.slice na5 R1.names.length nc5)).setCell ⟨w.heap.size + 1, 6, none⟩ (.slice sa5 R1.subs.length sc5)).cell? p = wp.cell? p := fun p hp => pc7 (.int .i64 R1.kind) (.string R1.pkg) (.int .i64 R1.major) (.string R1.mod) (.string R1.name) (.slice na5 R1.names.length nc5) (.slice sa5 R1.subs.length sc5) hp
            have hp := pf7 (.int .i64 R1.kind) (.string R1.pkg) (.int .i64 R1.major) (.string R1.mod) (.string R1.name) (.slice na5 R1.names.length nc5) (.slice sa5 R1.subs.length sc5) zb
            have hbp := pb7 (.int .i64 R1.kind) (.string R1.pkg) (.int .i64 R1.major) (.string R1.mod) (.string R1.name) (.slice na5 R1.names.length nc5) (.slice sa5 R1.subs.length sc5) hbw (show w.heap.size ≤ w.heap.size + 1 by omega)
            generalize (((((((wp.setCell ⟨w.heap.size + 1, 0, none⟩ (.int .i64 R1.kind)).setCell ⟨w.heap.size + 1, 1, none⟩ (.string R1.pkg)).setCell ⟨w.heap.size + 1, 2, none⟩ (.int .i64 R1.major)).setCell ⟨w.heap.size + 1, 3, none⟩ (.string R1.mod)).setCell ⟨w.heap.size + 1, 4, none⟩ (.string R1.name)).setCell ⟨w.heap.size + 1, 5, none⟩ (.slice na5 R1.names.length nc5)).setCell ⟨w.heap.size + 1, 6, none⟩ (.slice sa5 R1.subs.length sc5)) = Wf at hp hbp hcc ⊢
            refine hK.out _ _ (Until.offT (by kernel_rfl)) (fun hV => ?_)
            clear hK K hU
            have hU := hV
            clear hV
            try simp only [Act.put, aput]
            refine AnyU.take (i := 7) (v := ?_) rfl (by kernel_rfl) (by kernel_rfl) (by kernel_rfl) (fun _ _ _ h => h) (by kernel_rfl) (by assumption) (by rfl) ?_ (fun hV => ?_)
            rotate_left 1
            · (intro wq; go_simp; try with_reducible rfl)
            clear hU; have hU := hV; clear hV
            try simp only [Act.put, aput]
            refine AnyU.done (by kernel_rfl) ?_
            go_wp2_with fail
            obtain ⟨r0, r1, r2, r3, r4, r5, r6⟩ := cellsT7 hp
            refine bodyPost_ret (by simp [results, Tryz.results143, go_sem, r0, r1, r2, r3, r4, r5, r6]; try rfl) rfl ?_
            exact ⟨_, rfl, hy.keep fun p hp => hcc p (by omega), hbp⟩
    · obtain rfl : k = E.m.imps.length := by omega
      have hkI : ¬ (E.m.imps.length : Int) < (E.m.imps.length : Int) := by omega
      have hres := HR.out.symm.trans (thereF_none (List.find?_eq_none.2 fun x hx => by
        obtain ⟨i, hi, rfl⟩ := List.getElem_of_mem hx
        rw [HA.out i hi hi]; decide))
      obtain ⟨rfl, rfl⟩ := Prod.mk.inj hres
      obtain ⟨e0, e1, e2, e3, e4, e5, e6⟩ := cellsT7 ER.out
      have f0 := ER.out.free 0
      have f1 := ER.out.free 1
      have f2 := ER.out.free 2
      have f3 := ER.out.free 3
      have f4 := ER.out.free 4
      have f5 := ER.out.free 5
      have f6 := ER.out.free 6
      have le := ER.out.lt
      clear hres
      go_wp2_with fail
      obtain ⟨Wz, hWq, hp, hbp⟩ := st7 (.int .i64 0) (.string { data := #[] }) (.int .i64 0) (.string { data := #[] }) (.string { data := #[] }) (.slice none 0 0) (.slice none 0 0) ER.out BR.out (Nat.le_succ _)
      rewrite [← hWq]; clear hWq
      obtain ⟨r0, r1, r2, r3, r4, r5, r6⟩ := cellsT7 hp
      refine bodyPost_ret (by simp [results, Tryz.results143, go_sem, r0, r1, r2, r3, r4, r5, r6]; try rfl) rfl ?_
      exact ⟨_, rfl, zT_c _ _, hbp⟩
end Go.Proofs.YtjeldfipipkfiaaGreat
