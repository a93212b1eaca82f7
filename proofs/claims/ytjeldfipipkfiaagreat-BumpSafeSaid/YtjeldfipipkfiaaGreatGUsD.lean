/- The contracts of uses.May, has, typed and Check; memory: a client, interfaces. -/
import Derived.Test.YtjeldfipipkfiaaGreatExE
import Derived.Test.YtjeldfipipkfiaaGreatUseP
import Derived.Test.YtjeldfipipkfiaaGreatExC
import Derived.Test.YtjeldfipipkfiaaGreatGRefK
import Derived.Test.YtjeldfipipkfiaaGreatOpenAll
namespace Go.Proofs.YtjeldfipipkfiaaGreat
open Go.RowKit
set_option linter.unusedSimpArgs false
set_option linter.unusedVariables false
def lnCells (l : Ln) (na : Option Addr) (nc : Nat) (sa : Option Addr) (sc : Nat) : Array Value := #[.int .i64 l.kind, .string l.mod, .string l.name, .int .i64 l.ty.kind, .string l.ty.pkg, .int .i64 l.ty.major, .string l.ty.mod, .string l.ty.name, .slice na l.ty.names.length nc, .slice sa l.ty.subs.length sc]
structure LnFits (l : Ln) : Prop where
  kind : -9223372036854775808 ≤ l.kind ∧ l.kind ≤ 9223372036854775807
  mod : l.mod.size ≤ maxLen
  name : l.name.size ≤ maxLen
def LnC (w : World) (B : Nat) (l : Ln) (cs : Array Value) : Prop := LnFits l ∧ ∃ na nc sa sc, cs = lnCells l na nc sa sc ∧ TyC w B l.ty (tyCells l.ty na nc sa sc)
def LnsAt (w : World) (B : Nat) (A : Option Addr) (l : List Ln) : Prop := ∃ f, RowsK 10 w B A l.length f ∧ ∀ i (h : i < l.length), LnC w B l[i] (f i)
theorem LnC.keep {w w' : World} {B : Nat} {l : Ln} {cs : Array Value} (h : LnC w B l cs) (hk : ∀ p : Addr, p.block < B → w'.cell? p = w.cell? p) : LnC w' B l cs := by
  obtain ⟨h0, na, nc, sa, sc, h1, h2⟩ := h
  exact ⟨h0, na, nc, sa, sc, h1, h2.keep hk⟩
theorem LnsAt.under {w w' : World} {B : Nat} {A : Option Addr} {l : List Ln} (h : LnsAt w B A l) (hb : Below B w w') : LnsAt w' B A l := by
  obtain ⟨f, h1, h2⟩ := h
  exact ⟨f, h1.keep fun _ hp => hb.cell hp, fun i hi => (h2 i hi).keep fun _ hp => hb.cell hp⟩
theorem LnsAt.mono {w : World} {B B' : Nat} {A : Option Addr} {l : List Ln} (h : LnsAt w B A l) (hB : B ≤ B') : LnsAt w B' A l := by
  obtain ⟨f, h1, h2⟩ := h
  refine ⟨f, h1.mono hB, fun i hi => ?_⟩
  obtain ⟨h0, na, nc, sa, sc, h3, h4⟩ := h2 i hi
  exact ⟨h0, na, nc, sa, sc, h3, h4.mono hB⟩
theorem LnsAt.elem {w : World} {B : Nat} {A : Option Addr} {l : List Ln} (h : LnsAt w B A l) {k : Nat} (hk : k < l.length) {x : Ln} (hx : l[k] = x) :
    LnFits x ∧ ∃ b o na nc sa sc, A = some ⟨b, o, none⟩ ∧ b < B ∧ TyC w B x.ty (tyCells x.ty na nc sa sc) ∧ w.cell? ⟨b, o + k * 10, none⟩ = some (.int .i64 x.kind) ∧ w.cell? ⟨b, o + k * 10 + 1, none⟩ = some (.string x.mod) ∧ w.cell? ⟨b, o + k * 10 + 2, none⟩ = some (.string x.name) ∧ w.cell? ⟨b, o + k * 10 + 3, none⟩ = some (.int .i64 x.ty.kind) ∧ w.cell? ⟨b, o + k * 10 + 4, none⟩ = some (.string x.ty.pkg) ∧ w.cell? ⟨b, o + k * 10 + 5, none⟩ = some (.int .i64 x.ty.major) ∧ w.cell? ⟨b, o + k * 10 + 6, none⟩ = some (.string x.ty.mod) ∧ w.cell? ⟨b, o + k * 10 + 7, none⟩ = some (.string x.ty.name) ∧ w.cell? ⟨b, o + k * 10 + 8, none⟩ = some (.slice na x.ty.names.length nc) ∧ w.cell? ⟨b, o + k * 10 + 9, none⟩ = some (.slice sa x.ty.subs.length sc) := by
  subst hx
  obtain ⟨f, h1, h2⟩ := h
  obtain ⟨h0, na, nc, sa, sc, hf, ht⟩ := h2 k hk
  rcases h1 with h1 | ⟨b, o, hA, hb, h⟩
  · omega
  · have e := fun j hj => h k hk j (by rw [hf]; exact hj)
    rw [hf] at e
    exact ⟨h0, b, o, na, nc, sa, sc, hA, hb, ht, e 0 (by simp [lnCells]), e 1 (by simp [lnCells]), e 2 (by simp [lnCells]), e 3 (by simp [lnCells]), e 4 (by simp [lnCells]), e 5 (by simp [lnCells]), e 6 (by simp [lnCells]), e 7 (by simp [lnCells]), e 8 (by simp [lnCells]), e 9 (by simp [lnCells])⟩
structure UsM (w : World) (B : Nat) (u : Us) (ia : Option Addr) (ic : Nat) (la : Option Addr) (lc : Nat) : Prop where
  imps : ImpsAt w B ia u.imps
  lines : LnsAt w B la u.lines
  ni : u.imps.length ≤ 1000000
  nl : u.lines.length ≤ 1000000
  icap : u.imps.length ≤ ic
  lcap : u.lines.length ≤ lc
theorem UsM.under {w w' : World} {B : Nat} {u : Us} {ia : Option Addr} {ic : Nat} {la : Option Addr} {lc : Nat} (h : UsM w B u ia ic la lc) (hb : Below B w w') : UsM w' B u ia ic la lc := ⟨h.imps.under hb, h.lines.under hb, h.ni, h.nl, h.icap, h.lcap⟩
theorem UsM.mono {w : World} {B B' : Nat} {u : Us} {ia : Option Addr} {ic : Nat} {la : Option Addr} {lc : Nat} (h : UsM w B u ia ic la lc) (hB : B ≤ B') : UsM w B' u ia ic la lc := ⟨h.imps.mono hB, h.lines.mono hB, h.ni, h.nl, h.icap, h.lcap⟩
theorem cellsT10 {w : World} {g : Nat} {T : TypeId} {x0 x1 x2 x3 x4 x5 x6 x7 x8 x9 : Value} (h : Blk w g #[x0, x1, x2, x3, x4, x5, x6, x7, x8, x9] T) : w.cell? ⟨g, 0, none⟩ = some x0 ∧ w.cell? ⟨g, 1, none⟩ = some x1 ∧ w.cell? ⟨g, 2, none⟩ = some x2 ∧ w.cell? ⟨g, 3, none⟩ = some x3 ∧ w.cell? ⟨g, 4, none⟩ = some x4 ∧ w.cell? ⟨g, 5, none⟩ = some x5 ∧ w.cell? ⟨g, 6, none⟩ = some x6 ∧ w.cell? ⟨g, 7, none⟩ = some x7 ∧ w.cell? ⟨g, 8, none⟩ = some x8 ∧ w.cell? ⟨g, 9, none⟩ = some x9 := ⟨h.cell 0, h.cell 1, h.cell 2, h.cell 3, h.cell 4, h.cell 5, h.cell 6, h.cell 7, h.cell 8, h.cell 9⟩
set_option maxRecDepth 100000 in
set_option maxHeartbeats 40000000 in
theorem usImp_c (i : Imp) (w : World) (hf : ImpFits i) : Calls Tryz.prog 70 #[.agg (impCells i)] w fun e w' => e = .returned (.bool (impOk i)) ∧ Below w.heap.size w w' := by
  have C1 := fun w => Small_c i.pkg w hf.pkg
  have C2 := fun w => Small_c i.mod w hf.mod
  have C3 := fun w => Small_c i.asN w hf.asN
  obtain ⟨s1, h1⟩ : ∃ s, smallB i.pkg = s := ⟨_, rfl⟩
  obtain ⟨s2, h2⟩ : ∃ s, smallB i.mod = s := ⟨_, rfl⟩
  obtain ⟨s3, h3⟩ : ∃ s, smallB i.asN = s := ⟨_, rfl⟩
  have hr : impOk i = (s1 && (s2 && (s3 && (decide (1 ≤ i.major) && decide (i.major ≤ 999999999))))) := by rw [impOk, h1, h2, h3]
  rw [hr]
  simp only [h1] at C1
  simp only [h2] at C2
  simp only [h3] at C3
  have H1 := Lib.hid C1
  have H2 := Lib.hid C2
  have H3 := Lib.hid C3
  clear C1 C2 C3 h1 h2 h3 hr hf
  go_enter Tryz.func70, Tryz.ntmps70
  simp only [impCells]
  go_upto_region 1 with fail
  have x0 := Lib.hid (Blk.new w #[.string i.pkg, .int .i64 i.major, .string i.mod, .string i.asN] 72)
  have A0 := Lib.hid ((Below.refl w.heap.size w).alloc (Nat.le_refl _) (.cells #[.string i.pkg, .int .i64 i.major, .string i.mod, .string i.asN] 72))
  generalize (w.alloc (.cells #[.string i.pkg, .int .i64 i.major, .string i.mod, .string i.asN] 72)) = W at x0 A0 ⊢
  obtain ⟨k0, k1, k2, k3⟩ := cellsT4 x0.out
  have lk := x0.out.lt
  by_cases m1 : 1 ≤ i.major
  all_goals by_cases m2 : i.major ≤ 999999999
  all_goals try (exfalso; omega)
  all_goals
    cases s1 <;> cases s2 <;> cases s3
  all_goals
    go_wp2_with (go_at_call 23; first
          | (have hno := A2; refine (H3.out _).mono ?_; rintro e w3 ⟨rfl, hb⟩; have A3 := Lib.hid (A2.out.trans (hb.mono A2.out.size)); clear hb k0 k1 k2 k3 lk hno; obtain ⟨k0, k1, k2, k3⟩ := cellsT4 (x0.out.under A3.out x0.out.lt); have lk := (x0.out.under A3.out x0.out.lt).lt)
          | (have hno := A1; refine (H2.out _).mono ?_; rintro e w2 ⟨rfl, hb⟩; have A2 := Lib.hid (A1.out.trans (hb.mono A1.out.size)); clear hb k0 k1 k2 k3 lk hno; obtain ⟨k0, k1, k2, k3⟩ := cellsT4 (x0.out.under A2.out x0.out.lt); have lk := (x0.out.under A2.out x0.out.lt).lt)
          | (refine (H1.out _).mono ?_; rintro e w1 ⟨rfl, hb⟩; have A1 := Lib.hid hb; clear hb k0 k1 k2 k3 lk; obtain ⟨k0, k1, k2, k3⟩ := cellsT4 (x0.out.under A1.out x0.out.lt); have lk := (x0.out.under A1.out x0.out.lt).lt))
    all_goals
      go_ret
      refine ⟨ret_b (by simp [m1, m2]), ?_⟩
      first
        | exact A0.out.trans (A3.out.mono A0.out.size)
        | exact A0.out.trans (A2.out.mono A0.out.size)
        | exact A0.out.trans (A1.out.mono A0.out.size)
set_option maxRecDepth 100000 in
set_option maxHeartbeats 4000000 in
theorem idxImp0_c (fn : Nat) (p : Imp → Bool) (A : Option Addr) (c B : Nat) (l : List Imp) (w : World) (h1 : ImpsAt w B A l) (hB : B ≤ w.heap.size) (hl : l.length ≤ 1000000)
    (hfn : ∀ (a : Array Value) (w : World), (callFunc fn a).run Tryz.prog w = .ok (.enter fn a) w)
    (hp : ∀ w', Below w.heap.size w w' → ∀ x ∈ l, ImpFits x → Calls Tryz.prog fn #[.agg (impCells x)] w' fun e w'' => e = .returned (.bool (p x)) ∧ Below w'.heap.size w' w'') :
    Calls Tryz.prog 74 #[.slice A l.length c, .func (.func fn) #[] #[]] w fun e w' => e = .returned (.int .i64 (idxP p l)) ∧ Below w.heap.size w w' := by
  obtain ⟨q, hq⟩ : ∃ q, idxP p l = q := ⟨_, rfl⟩
  rw [hq]
  have HQ := Lib.hid hq
  have H1 := Lib.hid h1
  have HP := Lib.hid hp
  clear h1 hq hp
  go_enter Tryz.func74, Tryz.ntmps74
  go_wp2
  go_loopw [8] (fun i w1 => ∃ k : Nat, k ≤ l.length ∧ i = .int .i64 k ∧ Below w.heap.size w w1 ∧ ∀ i (h : i < l.length), i < k → p l[i] = false) (fun i _ => l.length - (intOf i).toNat)
  case atStart => exact ⟨0, Nat.zero_le _, rfl, Below.refl _ _, fun i _ hi => absurd hi (by omega)⟩
  case round =>
    rename World => wr
    obtain ⟨k, hk, rfl, hacc, hall⟩ := hrel
    have HA := Lib.hid hall
    have HB := Lib.hid hacc
    clear hall hacc
    by_cases hlt : k < l.length
    · have hltI : (k : Int) < (l.length : Int) := by omega
      obtain ⟨x, hx⟩ : ∃ x, l[k] = x := ⟨_, rfl⟩
      obtain ⟨hfx, b, o, rfl, hbB, c0, c1, c2, c3⟩ := (H1.out.under (HB.out.mono hB)).elem hlt hx
      have hbw : b < wr.heap.size := by have := HB.out.size; omega
      have HX := Lib.hid hx
      have hmem : x ∈ l := by rw [← hx]; exact List.getElem_mem hlt
      have HC := Lib.hid (HP.out wr HB.out x hmem hfx)
      clear hx hmem
      go_wp2_with fail
      refine HC.out.mono ?_
      rintro e w1 ⟨rfl, hb1⟩
      have HB1 := Lib.hid (HB.out.trans (hb1.mono HB.out.size))
      clear hb1 HC
      obtain ⟨t, ht⟩ : ∃ t, p x = t := ⟨_, rfl⟩
      rw [ht]
      have HT := Lib.hid ht
      clear ht
      cases t
      · go_wp2_with fail
        exact ⟨⟨k + 1, by omega, by go_num, HB1.out, fun i hi hik => by
          by_cases e : i = k
          · subst e; rw [HX.out]; exact HT.out
          · exact HA.out i hi (by omega)⟩, by simp [intOf]; omega⟩
      · have hr := HQ.out.symm.trans (idxP_hit hlt HA.out (by rw [HX.out]; exact HT.out))
        subst hr
        go_wp2_with fail
        go_ret
        exact ⟨rfl, HB1.out⟩
    · obtain rfl : k = l.length := by omega
      have hltI : ¬ (l.length : Int) < (l.length : Int) := by omega
      have hr := HQ.out.symm.trans (idxP_miss fun i hi => HA.out i hi hi)
      subst hr
      go_wp2_with fail
      go_ret
      exact ⟨rfl, HB.out⟩
set_option maxHeartbeats 4000000 in
theorem conImp0_c (fn : Nat) (p : Imp → Bool) (A : Option Addr) (c B : Nat) (l : List Imp) (w : World) (h1 : ImpsAt w B A l) (hB : B ≤ w.heap.size) (hl : l.length ≤ 1000000)
    (hfn : ∀ (a : Array Value) (w : World), (callFunc fn a).run Tryz.prog w = .ok (.enter fn a) w)
    (hp : ∀ w', Below w.heap.size w w' → ∀ x ∈ l, ImpFits x → Calls Tryz.prog fn #[.agg (impCells x)] w' fun e w'' => e = .returned (.bool (p x)) ∧ Below w'.heap.size w' w'') :
    Calls Tryz.prog 38 #[.slice A l.length c, .func (.func fn) #[] #[]] w fun e w' => e = .returned (.bool (l.any p)) ∧ Below w.heap.size w w' := by
  have H := Lib.hid (idxImp0_c fn p A c B l w h1 hB hl hfn hp)
  have hany := idxP_any p l
  obtain ⟨q, hq⟩ : ∃ q, idxP p l = q := ⟨_, rfl⟩
  obtain ⟨r, hr⟩ : ∃ r, l.any p = r := ⟨_, rfl⟩
  rw [hq, hr] at hany
  simp only [hq] at H
  rw [hr]
  clear hq hr h1 hp hfn
  go_enter Tryz.func38, Tryz.ntmps38
  go_wp2_with fail
  refine H.out.mono ?_
  rintro e w1 ⟨rfl, hb1⟩
  have hge : decide (q ≥ 0) = r := hany
  go_wp2_with fail
  go_ret
  first
    | exact ⟨rfl, hb1⟩
    | exact ⟨ret_b hany, hb1⟩
set_option maxRecDepth 100000 in
set_option maxHeartbeats 4000000 in
theorem idxLn0_c (fn : Nat) (p : Ln → Bool) (A : Option Addr) (c B : Nat) (l : List Ln) (w : World) (h1 : LnsAt w B A l) (hB : B ≤ w.heap.size) (hl : l.length ≤ 1000000)
    (hfn : ∀ (a : Array Value) (w : World), (callFunc fn a).run Tryz.prog w = .ok (.enter fn a) w)
    (hp : ∀ w', Below w.heap.size w w' → ∀ x ∈ l, ∀ na nc sa sc, LnFits x → TyC w' B x.ty (tyCells x.ty na nc sa sc) → Calls Tryz.prog fn #[.agg (lnCells x na nc sa sc)] w' fun e w'' => e = .returned (.bool (p x)) ∧ Below w'.heap.size w' w'') :
    Calls Tryz.prog 122 #[.slice A l.length c, .func (.func fn) #[] #[]] w fun e w' => e = .returned (.int .i64 (idxP p l)) ∧ Below w.heap.size w w' := by
  obtain ⟨q, hq⟩ : ∃ q, idxP p l = q := ⟨_, rfl⟩
  rw [hq]
  have HQ := Lib.hid hq
  have H1 := Lib.hid h1
  have HP := Lib.hid hp
  clear h1 hq hp
  go_enter Tryz.func122, Tryz.ntmps122
  go_wp2
  go_loopw [8] (fun i w1 => ∃ k : Nat, k ≤ l.length ∧ i = .int .i64 k ∧ Below w.heap.size w w1 ∧ ∀ i (h : i < l.length), i < k → p l[i] = false) (fun i _ => l.length - (intOf i).toNat)
  case atStart => exact ⟨0, Nat.zero_le _, rfl, Below.refl _ _, fun i _ hi => absurd hi (by omega)⟩
  case round =>
    rename World => wr
    obtain ⟨k, hk, rfl, hacc, hall⟩ := hrel
    have HA := Lib.hid hall
    have HB := Lib.hid hacc
    clear hall hacc
    by_cases hlt : k < l.length
    · have hltI : (k : Int) < (l.length : Int) := by omega
      obtain ⟨x, hx⟩ : ∃ x, l[k] = x := ⟨_, rfl⟩
      obtain ⟨hfx, b, o, na, nc, sa, sc, rfl, hbB, hty, c0, c1, c2, c3, c4, c5, c6, c7, c8, c9⟩ := (H1.out.under (HB.out.mono hB)).elem hlt hx
      have hbw : b < wr.heap.size := by have := HB.out.size; omega
      have HX := Lib.hid hx
      have hmem : x ∈ l := by rw [← hx]; exact List.getElem_mem hlt
      have HC := Lib.hid (HP.out wr HB.out x hmem na nc sa sc hfx hty)
      clear hx hmem
      go_wp2_with fail
      refine HC.out.mono ?_
      rintro e w1 ⟨rfl, hb1⟩
      have HB1 := Lib.hid (HB.out.trans (hb1.mono HB.out.size))
      clear hb1 HC
      obtain ⟨t, ht⟩ : ∃ t, p x = t := ⟨_, rfl⟩
      rw [ht]
      have HT := Lib.hid ht
      clear ht
      cases t
      · go_wp2_with fail
        exact ⟨⟨k + 1, by omega, by go_num, HB1.out, fun i hi hik => by
          by_cases e : i = k
          · subst e; rw [HX.out]; exact HT.out
          · exact HA.out i hi (by omega)⟩, by simp [intOf]; omega⟩
      · have hr := HQ.out.symm.trans (idxP_hit hlt HA.out (by rw [HX.out]; exact HT.out))
        subst hr
        go_wp2_with fail
        go_ret
        exact ⟨rfl, HB1.out⟩
    · obtain rfl : k = l.length := by omega
      have hltI : ¬ (l.length : Int) < (l.length : Int) := by omega
      have hr := HQ.out.symm.trans (idxP_miss fun i hi => HA.out i hi hi)
      subst hr
      go_wp2_with fail
      go_ret
      exact ⟨rfl, HB.out⟩
set_option maxHeartbeats 4000000 in
theorem conLn0_c (fn : Nat) (p : Ln → Bool) (A : Option Addr) (c B : Nat) (l : List Ln) (w : World) (h1 : LnsAt w B A l) (hB : B ≤ w.heap.size) (hl : l.length ≤ 1000000)
    (hfn : ∀ (a : Array Value) (w : World), (callFunc fn a).run Tryz.prog w = .ok (.enter fn a) w)
    (hp : ∀ w', Below w.heap.size w w' → ∀ x ∈ l, ∀ na nc sa sc, LnFits x → TyC w' B x.ty (tyCells x.ty na nc sa sc) → Calls Tryz.prog fn #[.agg (lnCells x na nc sa sc)] w' fun e w'' => e = .returned (.bool (p x)) ∧ Below w'.heap.size w' w'') :
    Calls Tryz.prog 73 #[.slice A l.length c, .func (.func fn) #[] #[]] w fun e w' => e = .returned (.bool (l.any p)) ∧ Below w.heap.size w w' := by
  have H := Lib.hid (idxLn0_c fn p A c B l w h1 hB hl hfn hp)
  have hany := idxP_any p l
  obtain ⟨q, hq⟩ : ∃ q, idxP p l = q := ⟨_, rfl⟩
  obtain ⟨r, hr⟩ : ∃ r, l.any p = r := ⟨_, rfl⟩
  rw [hq, hr] at hany
  simp only [hq] at H
  rw [hr]
  clear hq hr h1 hp hfn
  go_enter Tryz.func73, Tryz.ntmps73
  go_wp2_with fail
  refine H.out.mono ?_
  rintro e w1 ⟨rfl, hb1⟩
  have hge : decide (q ≥ 0) = r := hany
  go_wp2_with fail
  go_ret
  first
    | exact ⟨rfl, hb1⟩
    | exact ⟨ret_b hany, hb1⟩
set_option maxHeartbeats 4000000 in
theorem usMay1_c (x : Imp) (w : World) (hf : ImpFits x) : Calls Tryz.prog 69 #[.agg (impCells x)] w fun e w' => e = .returned (.bool (!impOk x)) ∧ Below w.heap.size w w' := by
  have HC := Lib.hid (fun w' => usImp_c x w' hf)
  simp only [impCells] at HC ⊢
  go_enter Tryz.func69, Tryz.ntmps69
  go_upto_region 1 with fail
  obtain ⟨d0, hb, -⟩ := laidN w #[.string x.pkg, .int .i64 x.major, .string x.mod, .string x.asN] 72
  generalize (w.alloc (.cells #[.string x.pkg, .int .i64 x.major, .string x.mod, .string x.asN] 72)) = W at hb d0 ⊢
  obtain ⟨k0, k1, k2, k3⟩ := cellsT4 d0
  have kl := d0.lt
  have HB := Lib.hid hb
  clear hb d0 hf
  go_wp2_with (go_at_call 70; refine (HC.out _).mono ?_; rintro e w1 ⟨rfl, hb1⟩; have B1 := Lib.hid (HB.out.trans (hb1.mono HB.out.size)); clear hb1)
  go_ret
  exact ⟨rfl, B1.out⟩
set_option maxRecDepth 100000 in
set_option maxHeartbeats 40000000 in
theorem saidL_c (l : Ln) (na : Option Addr) (nc : Nat) (sa : Option Addr) (sc : Nat) (B : Nat) (w : World) (hf : LnFits l) (ht : TyC w B l.ty (tyCells l.ty na nc sa sc)) (hB : B ≤ w.heap.size) :
    Calls Tryz.prog 72 #[.agg (lnCells l na nc sa sc)] w fun e w' => e = .returned (.bool (lnOk l)) ∧ Below w.heap.size w w' := by
  have hsm := fun w' => Small_c l.name w' hf.name
  have hgr := fun w' => great_b l.name w' hf.name
  have hmo := fun w' => Small_c l.mod w' hf.mod
  have hmy := fun w' (hb : Below w.heap.size w w') => May_c l.ty _ B w' (ht.under (hb.mono hB)) (Nat.le_trans hB hb.size)
  obtain ⟨s1, h1⟩ : ∃ s, smallB l.name = s := ⟨_, rfl⟩
  obtain ⟨s2, h2⟩ : ∃ s, greatB l.name = s := ⟨_, rfl⟩
  obtain ⟨s3, h3⟩ : ∃ s, smallB l.mod = s := ⟨_, rfl⟩
  obtain ⟨s4, h4⟩ : ∃ s, mayT l.ty = s := ⟨_, rfl⟩
  have hr : lnOk l = (((l.kind == 1 && s1) || (l.kind == 2 && s2)) && (s3 && s4)) := by rw [lnOk, h1, h2, h3, h4]
  obtain ⟨R, hR⟩ : ∃ R, lnOk l = R := ⟨_, rfl⟩
  rw [hR]
  rw [hR] at hr
  have HRR := Lib.hid hr
  simp only [h1] at hsm
  simp only [h2] at hgr
  simp only [h3] at hmo
  simp only [h4, tyCells] at hmy
  have HSM := Lib.hid hsm
  have HGR := Lib.hid hgr
  have HMO := Lib.hid hmo
  have HMY := Lib.hid hmy
  clear hsm hgr hmo hmy h1 h2 h3 h4 hr hR hf ht
  unfold lnCells
  go_enter Tryz.func72, Tryz.ntmps72
  go_upto_region 1 with fail
  obtain ⟨d0, hb, -⟩ := laidN w #[.int .i64 l.kind, .string l.mod, .string l.name, .int .i64 l.ty.kind, .string l.ty.pkg, .int .i64 l.ty.major, .string l.ty.mod, .string l.ty.name, .slice na l.ty.names.length nc, .slice sa l.ty.subs.length sc] 85
  generalize (w.alloc (.cells #[.int .i64 l.kind, .string l.mod, .string l.name, .int .i64 l.ty.kind, .string l.ty.pkg, .int .i64 l.ty.major, .string l.ty.mod, .string l.ty.name, .slice na l.ty.names.length nc, .slice sa l.ty.subs.length sc] 85)) = W at hb d0 ⊢
  have D0 := Lib.hid d0
  have BC := Lib.hid hb
  clear d0 hb
  obtain ⟨k0, k1, k2, k3, k4, k5, k6, k7, k8, k9⟩ := cellsT10 D0.out
  have kl := D0.out.lt
  by_cases h1 : l.kind = 1
  · have e1 : (l.kind == 1) = true := by simp [h1]
    have e2 : (l.kind == 2) = false := by simp [h1]
    have HE := Lib.hid (And.intro e1 e2)
    clear h1
    cases s1 <;> cases s2 <;> cases s3 <;> cases s4
    all_goals
      go_wp2_with (first
        | (go_at_call 23; (first | (with_reducible refine (HSM.out _).mono ?_) | (with_reducible refine (HMO.out _).mono ?_)); rintro e wn ⟨rfl, hb⟩; have D0 := Lib.hid (D0.out.under hb D0.out.lt); have BC := Lib.hid (BC.out.trans (hb.mono BC.out.size)); clear hb; clear k0 k1 k2 k3 k4 k5 k6 k7 k8 k9 kl; obtain ⟨k0, k1, k2, k3, k4, k5, k6, k7, k8, k9⟩ := cellsT10 D0.out; have kl := D0.out.lt)
        | (go_at_call 30; refine (HGR.out _).mono ?_; rintro e wn ⟨rfl, hb⟩; have D0 := Lib.hid (D0.out.under hb D0.out.lt); have BC := Lib.hid (BC.out.trans (hb.mono BC.out.size)); clear hb; clear k0 k1 k2 k3 k4 k5 k6 k7 k8 k9 kl; obtain ⟨k0, k1, k2, k3, k4, k5, k6, k7, k8, k9⟩ := cellsT10 D0.out; have kl := D0.out.lt)
        | (go_at_call 48; refine (HMY.out _ BC.out).mono ?_; rintro e wn ⟨rfl, hb⟩; have D0 := Lib.hid (D0.out.under hb D0.out.lt); have BC := Lib.hid (BC.out.trans (hb.mono BC.out.size)); clear hb; clear k0 k1 k2 k3 k4 k5 k6 k7 k8 k9 kl; obtain ⟨k0, k1, k2, k3, k4, k5, k6, k7, k8, k9⟩ := cellsT10 D0.out; have kl := D0.out.lt))
      go_ret
      exact ⟨ret_b (by rw [HRR.out, HE.out.1, HE.out.2]; rfl), BC.out⟩
  · by_cases h2 : l.kind = 2
    · have e1 : (l.kind == 1) = false := by simp [h1]
      have e2 : (l.kind == 2) = true := by simp [h2]
      have HE := Lib.hid (And.intro e1 e2)
      clear h1 h2
      cases s1 <;> cases s2 <;> cases s3 <;> cases s4
      all_goals
        go_wp2_with (first
          | (go_at_call 23; (first | (with_reducible refine (HSM.out _).mono ?_) | (with_reducible refine (HMO.out _).mono ?_)); rintro e wn ⟨rfl, hb⟩; have D0 := Lib.hid (D0.out.under hb D0.out.lt); have BC := Lib.hid (BC.out.trans (hb.mono BC.out.size)); clear hb; clear k0 k1 k2 k3 k4 k5 k6 k7 k8 k9 kl; obtain ⟨k0, k1, k2, k3, k4, k5, k6, k7, k8, k9⟩ := cellsT10 D0.out; have kl := D0.out.lt)
          | (go_at_call 30; refine (HGR.out _).mono ?_; rintro e wn ⟨rfl, hb⟩; have D0 := Lib.hid (D0.out.under hb D0.out.lt); have BC := Lib.hid (BC.out.trans (hb.mono BC.out.size)); clear hb; clear k0 k1 k2 k3 k4 k5 k6 k7 k8 k9 kl; obtain ⟨k0, k1, k2, k3, k4, k5, k6, k7, k8, k9⟩ := cellsT10 D0.out; have kl := D0.out.lt)
          | (go_at_call 48; refine (HMY.out _ BC.out).mono ?_; rintro e wn ⟨rfl, hb⟩; have D0 := Lib.hid (D0.out.under hb D0.out.lt); have BC := Lib.hid (BC.out.trans (hb.mono BC.out.size)); clear hb; clear k0 k1 k2 k3 k4 k5 k6 k7 k8 k9 kl; obtain ⟨k0, k1, k2, k3, k4, k5, k6, k7, k8, k9⟩ := cellsT10 D0.out; have kl := D0.out.lt))
        go_ret
        exact ⟨ret_b (by rw [HRR.out, HE.out.1, HE.out.2]; rfl), BC.out⟩
    · have e1 : (l.kind == 1) = false := by simp [h1]
      have e2 : (l.kind == 2) = false := by simp [h2]
      have HE := Lib.hid (And.intro e1 e2)
      clear h1 h2
      go_wp2_with fail
      go_ret
      exact ⟨ret_b (by rw [HRR.out, HE.out.1, HE.out.2]; rfl), BC.out⟩
set_option maxHeartbeats 4000000 in
theorem usMay2_c (l : Ln) (na : Option Addr) (nc : Nat) (sa : Option Addr) (sc : Nat) (B : Nat) (w : World) (hf : LnFits l) (ht : TyC w B l.ty (tyCells l.ty na nc sa sc)) (hB : B ≤ w.heap.size) :
    Calls Tryz.prog 71 #[.agg (lnCells l na nc sa sc)] w fun e w' => e = .returned (.bool (!lnOk l)) ∧ Below w.heap.size w w' := by
  have HC := Lib.hid (fun w' (hb : Below w.heap.size w w') => saidL_c l na nc sa sc B w' hf (ht.under (hb.mono hB)) (Nat.le_trans hB hb.size))
  simp only [lnCells] at HC ⊢
  go_enter Tryz.func71, Tryz.ntmps71
  go_upto_region 1 with fail
  obtain ⟨d0, hb, -⟩ := laidN w #[.int .i64 l.kind, .string l.mod, .string l.name, .int .i64 l.ty.kind, .string l.ty.pkg, .int .i64 l.ty.major, .string l.ty.mod, .string l.ty.name, .slice na l.ty.names.length nc, .slice sa l.ty.subs.length sc] 85
  generalize (w.alloc (.cells #[.int .i64 l.kind, .string l.mod, .string l.name, .int .i64 l.ty.kind, .string l.ty.pkg, .int .i64 l.ty.major, .string l.ty.mod, .string l.ty.name, .slice na l.ty.names.length nc, .slice sa l.ty.subs.length sc] 85)) = W at hb d0 ⊢
  obtain ⟨k0, k1, k2, k3, k4, k5, k6, k7, k8, k9⟩ := cellsT10 d0
  have kl := d0.lt
  have HB := Lib.hid hb
  clear hb d0 hf ht
  go_wp2_with (go_at_call 72; refine (HC.out _ HB.out).mono ?_; rintro e w1 ⟨rfl, hb1⟩; have B1 := Lib.hid (HB.out.trans (hb1.mono HB.out.size)); clear hb1)
  go_ret
  exact ⟨rfl, B1.out⟩
theorem all_any {α : Type} (p : α → Bool) (l : List α) : l.all p = !(l.any fun x => !p x) := by
  induction l with
  | nil => rfl
  | cons x l ih => rw [List.all_cons, List.any_cons, ih]; cases p x <;> simp
set_option maxRecDepth 100000 in
set_option maxHeartbeats 8000000 in
theorem usMay_c (u : Us) (ia : Option Addr) (ic : Nat) (la : Option Addr) (lc B : Nat) (w : World) (hu : UsM w B u ia ic la lc) (hB : B ≤ w.heap.size) :
    Calls Tryz.prog 37 #[.agg #[.slice ia u.imps.length ic, .slice la u.lines.length lc]] w fun e w' => e = .returned (.bool (mayU u)) ∧ Below w.heap.size w w' := by
  have hci := fun w' (hb : Below w.heap.size w w') => conImp0_c 69 (fun x => !impOk x) ia ic B u.imps w' ((hu.under (hb.mono hB)).imps) (Nat.le_trans hB hb.size) hu.ni (by intro a w; rfl) (fun w'' hb'' x hx hfx => usMay1_c x w'' hfx)
  have hcl := fun w' (hb : Below w.heap.size w w') => conLn0_c 71 (fun x => !lnOk x) la lc B u.lines w' ((hu.under (hb.mono hB)).lines) (Nat.le_trans hB hb.size) hu.nl (by intro a w; rfl) (fun w'' hb'' x hx na nc sa sc hf ht => usMay2_c x na nc sa sc B w'' hf ht (Nat.le_trans (Nat.le_trans hB hb.size) hb''.size))
  obtain ⟨q1, h1⟩ : ∃ q, (u.imps.any fun x => !impOk x) = q := ⟨_, rfl⟩
  obtain ⟨q2, h2⟩ : ∃ q, (u.lines.any fun x => !lnOk x) = q := ⟨_, rfl⟩
  simp only [h1] at hci
  simp only [h2] at hcl
  obtain ⟨R, hR⟩ : ∃ R, mayU u = R := ⟨_, rfl⟩
  have hr : R = (decide (u.imps.length ≤ 20) && (decide (u.lines.length ≤ 60) && (!q1 && !q2))) := by rw [← hR, mayU, all_any, all_any, h1, h2]
  rw [hR]
  have HR := Lib.hid hr
  have HCI := Lib.hid hci
  have HCL := Lib.hid hcl
  clear hci hcl h1 h2 hR hr hu
  go_enter Tryz.func37, Tryz.ntmps37
  go_upto_region 1 with fail
  obtain ⟨d0, hb, -⟩ := laidN w #[.slice ia u.imps.length ic, .slice la u.lines.length lc] 44
  generalize (w.alloc (.cells #[.slice ia u.imps.length ic, .slice la u.lines.length lc] 44)) = W at hb d0 ⊢
  have D0 := Lib.hid d0
  have BC := Lib.hid hb
  clear d0 hb
  obtain ⟨k0, k1⟩ := cellsT2 D0.out
  have kl := D0.out.lt
  by_cases e1 : u.imps.length ≤ 20
  · have e1I : (u.imps.length : Int) ≤ 20 := by omega
    by_cases e2 : u.lines.length ≤ 60
    · have e2I : (u.lines.length : Int) ≤ 60 := by omega
      have HE := Lib.hid (And.intro e1 e2)
      clear e1 e2
      cases q1 <;> cases q2
      all_goals
        go_wp2_with (first
          | (go_at_call 38; refine (HCI.out _ BC.out).mono ?_; rintro e wn ⟨rfl, hb⟩; have D0 := Lib.hid (D0.out.under hb D0.out.lt); have BC := Lib.hid (BC.out.trans (hb.mono BC.out.size)); clear hb; clear k0 k1 kl; obtain ⟨k0, k1⟩ := cellsT2 D0.out; have kl := D0.out.lt)
          | (go_at_call 73; refine (HCL.out _ BC.out).mono ?_; rintro e wn ⟨rfl, hb⟩; have D0 := Lib.hid (D0.out.under hb D0.out.lt); have BC := Lib.hid (BC.out.trans (hb.mono BC.out.size)); clear hb; clear k0 k1 kl; obtain ⟨k0, k1⟩ := cellsT2 D0.out; have kl := D0.out.lt))
        go_ret
        exact ⟨ret_b (by rw [HR.out, decide_eq_true HE.out.1, decide_eq_true HE.out.2]; rfl), BC.out⟩
    · have e2I : ¬ (u.lines.length : Int) ≤ 60 := by omega
      have HE := Lib.hid (And.intro e1 e2)
      clear e1 e2
      go_wp2_with fail
      go_ret
      exact ⟨ret_b (by rw [HR.out, decide_eq_true HE.out.1, decide_eq_false HE.out.2]; rfl), BC.out⟩
  · have e1I : ¬ (u.imps.length : Int) ≤ 20 := by omega
    have HE := Lib.hid e1
    clear e1
    go_wp2_with fail
    go_ret
    exact ⟨ret_b (by rw [HR.out, decide_eq_false HE.out]; rfl), BC.out⟩
end Go.Proofs.YtjeldfipipkfiaaGreat
namespace Go.Proofs.YtjeldfipipkfiaaGreat
open Go.RowKit
set_option linter.unusedSimpArgs false
set_option linter.unusedVariables false
set_option maxRecDepth 100000 in
set_option maxHeartbeats 8000000 in
theorem usHas_c (x : If) (l : Ln) (ta : Option Addr) (tc : Nat) (va : Option Addr) (vc : Nat) (na : Option Addr) (nc : Nat) (sa : Option Addr) (sc B : Nat) (w : World) (ht : NmsAt w B ta x.types) (hv : NmsAt w B va x.vals) (hl1 : x.types.length ≤ 1000000) (hl2 : x.vals.length ≤ 1000000) (hB : B ≤ w.heap.size) :
    Calls Tryz.prog 77 #[.agg (ifCells x ta tc va vc), .agg (lnCells l na nc sa sc)] w fun e w' => ∃ cs, e = .returned (.tuple #[.agg cs, .bool (hasF x l).isSome]) ∧ TyC w' B (((hasF x l).map Nm.ty).getD zT) cs ∧ Below w.heap.size w w' := by
  obtain ⟨row, hrow⟩ : ∃ row, (if l.kind = 1 then x.vals else x.types).find? (isNm l.name) = row := ⟨_, rfl⟩
  have hF : hasF x l = row := hrow
  rw [hF]
  obtain ⟨r1, hr1⟩ : ∃ r, (row.map Nm.ty).getD zT = r := ⟨_, rfl⟩
  obtain ⟨r2, hr2⟩ : ∃ r, row.isSome = r := ⟨_, rfl⟩
  rw [hr1, hr2]
  have hov := fun w' (hb : Below w.heap.size w w') => eOf_c x.vals l.name va vc B w' (hv.under (hb.mono hB)) (Nat.le_trans hB hb.size) hl2
  have hot := fun w' (hb : Below w.heap.size w w') => eOf_c x.types l.name ta tc B w' (ht.under (hb.mono hB)) (Nat.le_trans hB hb.size) hl1
  have HROW := Lib.hid hrow
  have HR1 := Lib.hid hr1
  have HR2 := Lib.hid hr2
  have HOV := Lib.hid hov
  have HOT := Lib.hid hot
  clear hov hot hrow hF hr1 hr2 ht hv
  unfold ifCells lnCells
  go_enter Tryz.func77, Tryz.ntmps77
  go_upto_region 1 with fail
  obtain ⟨d0, d1, d2, hz, hb⟩ := threeM w #[.string x.pkg, .int .i64 x.major, .string x.mod, .slice ta x.types.length tc, .slice va x.vals.length vc] #[.int .i64 l.kind, .string l.mod, .string l.name, .int .i64 l.ty.kind, .string l.ty.pkg, .int .i64 l.ty.major, .string l.ty.mod, .string l.ty.name, .slice na l.ty.names.length nc, .slice sa l.ty.subs.length sc] #[.int .i64 0, .string { data := #[] }, .int .i64 0, .string { data := #[] }, .string { data := #[] }, .slice none 0 0, .slice none 0 0] 33 85 53
  generalize (((w.alloc (.cells #[.string x.pkg, .int .i64 x.major, .string x.mod, .slice ta x.types.length tc, .slice va x.vals.length vc] 33)).alloc (.cells #[.int .i64 l.kind, .string l.mod, .string l.name, .int .i64 l.ty.kind, .string l.ty.pkg, .int .i64 l.ty.major, .string l.ty.mod, .string l.ty.name, .slice na l.ty.names.length nc, .slice sa l.ty.subs.length sc] 85)).alloc (.cells #[.int .i64 0, .string { data := #[] }, .int .i64 0, .string { data := #[] }, .string { data := #[] }, .slice none 0 0, .slice none 0 0] 53)) = W at hb d0 d1 d2 hz ⊢
  have HB := Lib.hid hb
  have D2 := Lib.hid d2
  obtain ⟨i0, i1, i2, i3, i4⟩ := cellsT5 d0
  have il := d0.lt
  obtain ⟨k0, k1, k2, k3, k4, k5, k6, k7, k8, k9⟩ := cellsT10 d1
  have kl := d1.lt
  clear hb d0 d1 d2
  by_cases hk : l.kind = 1
  · have hkb : (l.kind == 1) = true := by simp [hk]
    have hc := HOV.out W HB.out
    rw [show x.vals.find? (isNm l.name) = row by have := HROW.out; rwa [if_pos hk] at this, HR1.out, HR2.out] at hc
    have HC := Lib.hid hc
    clear hc hk
    go_wp2_with (go_at_call 125; refine HC.out.mono ?_; rintro e w1 ⟨cs, rfl, hty, hb⟩; obtain ⟨na3, nc3, sa3, sc3, f3, rfl, -⟩ := hty.inv; simp only [tyCells]; have HTY := Lib.hid hty; have B1 := Lib.hid (HB.out.trans (hb.mono (by omega))); have E1 := Lib.hid (D2.out.under hb D2.out.lt); clear hty hb i0 i1 i2 i3 i4 il k0 k1 k2 k3 k4 k5 k6 k7 k8 k9 kl; obtain ⟨e0, e1, e2, e3, e4, e5, e6⟩ := cellsT7 E1.out; have f0 := E1.out.free 0; have f1 := E1.out.free 1; have f2 := E1.out.free 2; have f3 := E1.out.free 3; have f4 := E1.out.free 4; have f5 := E1.out.free 5; have f6 := E1.out.free 6; have le := E1.out.lt)
    have hcc : ∀ p : Addr, p.block ≠ w.heap.size + 1 + 1 → (((((((w1.setCell ⟨w.heap.size + 1 + 1, 0, none⟩ (.int .i64 r1.kind)).setCell ⟨w.heap.size + 1 + 1, 1, none⟩ (.string r1.pkg)).setCell ⟨w.heap.size + 1 + 1, 2, none⟩ (.int .i64 r1.major)).setCell ⟨w.heap.size + 1 + 1, 3, none⟩ (.string r1.mod)).setCell ⟨w.heap.size + 1 + 1, 4, none⟩ (.string r1.name)).setCell ⟨w.heap.size + 1 + 1, 5, none⟩ (.slice na3 r1.names.length nc3)).setCell ⟨w.heap.size + 1 + 1, 6, none⟩ (.slice sa3 r1.subs.length sc3)).cell? p = w1.cell? p := fun p hp => pc7 (.int .i64 r1.kind) (.string r1.pkg) (.int .i64 r1.major) (.string r1.mod) (.string r1.name) (.slice na3 r1.names.length nc3) (.slice sa3 r1.subs.length sc3) hp
    have hp := pf7 (.int .i64 r1.kind) (.string r1.pkg) (.int .i64 r1.major) (.string r1.mod) (.string r1.name) (.slice na3 r1.names.length nc3) (.slice sa3 r1.subs.length sc3) E1.out
    have hbp := pb7 (.int .i64 r1.kind) (.string r1.pkg) (.int .i64 r1.major) (.string r1.mod) (.string r1.name) (.slice na3 r1.names.length nc3) (.slice sa3 r1.subs.length sc3) B1.out (show w.heap.size ≤ w.heap.size + 1 + 1 by omega)
    generalize (((((((w1.setCell ⟨w.heap.size + 1 + 1, 0, none⟩ (.int .i64 r1.kind)).setCell ⟨w.heap.size + 1 + 1, 1, none⟩ (.string r1.pkg)).setCell ⟨w.heap.size + 1 + 1, 2, none⟩ (.int .i64 r1.major)).setCell ⟨w.heap.size + 1 + 1, 3, none⟩ (.string r1.mod)).setCell ⟨w.heap.size + 1 + 1, 4, none⟩ (.string r1.name)).setCell ⟨w.heap.size + 1 + 1, 5, none⟩ (.slice na3 r1.names.length nc3)).setCell ⟨w.heap.size + 1 + 1, 6, none⟩ (.slice sa3 r1.subs.length sc3)) = Wz at hp hbp hcc ⊢
    obtain ⟨r0, r1', r2', r3, r4, r5, r6⟩ := cellsT7 hp
    refine bodyPost_ret (by simp [results, Tryz.results77, go_sem, r0, r1', r2', r3, r4, r5, r6]; try rfl) rfl ?_
    exact ⟨_, rfl, HTY.out.keep fun p hp => hcc p (by omega), hbp⟩
  · have hkb : (l.kind == 1) = false := by simp [hk]
    have hc := HOT.out W HB.out
    rw [show x.types.find? (isNm l.name) = row by have := HROW.out; rwa [if_neg hk] at this, HR1.out, HR2.out] at hc
    have HC := Lib.hid hc
    clear hc hk
    go_wp2_with (go_at_call 125; refine HC.out.mono ?_; rintro e w1 ⟨cs, rfl, hty, hb⟩; obtain ⟨na3, nc3, sa3, sc3, f3, rfl, -⟩ := hty.inv; simp only [tyCells]; have HTY := Lib.hid hty; have B1 := Lib.hid (HB.out.trans (hb.mono (by omega))); have E1 := Lib.hid (D2.out.under hb D2.out.lt); clear hty hb i0 i1 i2 i3 i4 il k0 k1 k2 k3 k4 k5 k6 k7 k8 k9 kl; obtain ⟨e0, e1, e2, e3, e4, e5, e6⟩ := cellsT7 E1.out; have f0 := E1.out.free 0; have f1 := E1.out.free 1; have f2 := E1.out.free 2; have f3 := E1.out.free 3; have f4 := E1.out.free 4; have f5 := E1.out.free 5; have f6 := E1.out.free 6; have le := E1.out.lt)
    have hcc : ∀ p : Addr, p.block ≠ w.heap.size + 1 + 1 → (((((((w1.setCell ⟨w.heap.size + 1 + 1, 0, none⟩ (.int .i64 r1.kind)).setCell ⟨w.heap.size + 1 + 1, 1, none⟩ (.string r1.pkg)).setCell ⟨w.heap.size + 1 + 1, 2, none⟩ (.int .i64 r1.major)).setCell ⟨w.heap.size + 1 + 1, 3, none⟩ (.string r1.mod)).setCell ⟨w.heap.size + 1 + 1, 4, none⟩ (.string r1.name)).setCell ⟨w.heap.size + 1 + 1, 5, none⟩ (.slice na3 r1.names.length nc3)).setCell ⟨w.heap.size + 1 + 1, 6, none⟩ (.slice sa3 r1.subs.length sc3)).cell? p = w1.cell? p := fun p hp => pc7 (.int .i64 r1.kind) (.string r1.pkg) (.int .i64 r1.major) (.string r1.mod) (.string r1.name) (.slice na3 r1.names.length nc3) (.slice sa3 r1.subs.length sc3) hp
    have hp := pf7 (.int .i64 r1.kind) (.string r1.pkg) (.int .i64 r1.major) (.string r1.mod) (.string r1.name) (.slice na3 r1.names.length nc3) (.slice sa3 r1.subs.length sc3) E1.out
    have hbp := pb7 (.int .i64 r1.kind) (.string r1.pkg) (.int .i64 r1.major) (.string r1.mod) (.string r1.name) (.slice na3 r1.names.length nc3) (.slice sa3 r1.subs.length sc3) B1.out (show w.heap.size ≤ w.heap.size + 1 + 1 by omega)
    generalize (((((((w1.setCell ⟨w.heap.size + 1 + 1, 0, none⟩ (.int .i64 r1.kind)).setCell ⟨w.heap.size + 1 + 1, 1, none⟩ (.string r1.pkg)).setCell ⟨w.heap.size + 1 + 1, 2, none⟩ (.int .i64 r1.major)).setCell ⟨w.heap.size + 1 + 1, 3, none⟩ (.string r1.mod)).setCell ⟨w.heap.size + 1 + 1, 4, none⟩ (.string r1.name)).setCell ⟨w.heap.size + 1 + 1, 5, none⟩ (.slice na3 r1.names.length nc3)).setCell ⟨w.heap.size + 1 + 1, 6, none⟩ (.slice sa3 r1.subs.length sc3)) = Wz at hp hbp hcc ⊢
    obtain ⟨r0, r1', r2', r3, r4, r5, r6⟩ := cellsT7 hp
    refine bodyPost_ret (by simp [results, Tryz.results77, go_sem, r0, r1', r2', r3, r4, r5, r6]; try rfl) rfl ?_
    exact ⟨_, rfl, HTY.out.keep fun p hp => hcc p (by omega), hbp⟩
def TypedRet (u : Us) (env : List If) (l : Ln) (w : World) (e : Ending) (w' : World) : Prop := ∃ v, e = .returned v ∧ Below w.heap.size w w' ∧ ((v = .nilIface ∧ TypedOk u env l) ∨ ((∃ c : Int, v = .iface 62 (.int .i64 c)) ∧ ¬ TypedOk u env l))
theorem typed1_c (x : Imp) (s : ByteArray) (gb : Nat) (w : World) (h1 : w.cell? ⟨gb, 1, none⟩ = some (.string s)) (hlt : gb < w.heap.size) :
    Calls Tryz.prog 75 #[.agg (impCells x), .pointer (some ⟨gb, 0, none⟩)] w fun e w' => e = .returned (.bool (isImp s x)) ∧ Below w.heap.size w w' := by
  simp only [impCells]
  go_enter Tryz.func75, Tryz.ntmps75
  go_wp2_with fail
  go_ret
  exact ⟨rfl, (Below.refl _ _).alloc (Nat.le_refl _) _⟩
theorem mdl_c {w : World} {B : Nat} {u : Us} {ia : Option Addr} {ic : Nat} {la : Option Addr} {lc : Nat} (h : UsM w B u ia ic la lc) : MdlC w B ⟨nmC, u.imps, []⟩ ia ic none 0 :=
  ⟨(by show nmC.size ≤ maxLen; decide +kernel), h.imps, .nil _ _ _, by have := h.ni; show u.imps.length ≤ maxLen; unfold maxLen; omega, by show ([] : List Dcl).length ≤ maxLen; decide, h.icap, Nat.le_refl _⟩
structure EnvI (w : World) (B : Nat) (env : List If) (ea : Option Addr) (ec : Nat) : Prop where
  at_ : IfsAt w B ea env
  ne : env.length ≤ 1000000
  nt : ∀ x ∈ env, x.types.length ≤ 1000000
  nv : ∀ x ∈ env, x.vals.length ≤ 1000000
  ec : env.length ≤ ec
theorem EnvI.under {w w' : World} {B : Nat} {env : List If} {ea : Option Addr} {ec : Nat} (h : EnvI w B env ea ec) (hb : Below B w w') : EnvI w' B env ea ec := ⟨h.at_.under hb, h.ne, h.nt, h.nv, h.ec⟩
theorem EnvI.mono {w : World} {B B' : Nat} {env : List If} {ea : Option Addr} {ec : Nat} (h : EnvI w B env ea ec) (hB : B ≤ B') : EnvI w B' env ea ec := ⟨h.at_.mono hB, h.ne, h.nt, h.nv, h.ec⟩
theorem envU_c {w : World} {B : Nat} {u : Us} {env : List If} {ia : Option Addr} {ic : Nat} {la : Option Addr} {lc : Nat} {ea : Option Addr} {ec : Nat} (h : UsM w B u ia ic la lc) (he : EnvI w B env ea ec) : EnvC w B (envU u env) ia ic none 0 ea ec :=
  ⟨mdl_c h, he.at_, by show ([] : List Dcl).length ≤ 1000000; decide, h.ni, he.ne, he.nt, (by show nmC.size ≤ maxLen; decide +kernel), he.ec, by show (-9223372036854775808 : Int) ≤ 1 ∧ (1 : Int) ≤ 9223372036854775807; decide⟩
theorem codeEq4 (c : Int) (h : c = 0 ∨ c = 1 ∨ c = 3 ∨ c = 4 ∨ c = 9) (w : World) : (binOp .eql 35 (codeV c) (.iface 62 (.int .i64 4))).run Tryz.prog w = .ok (.bool (c == 4)) w := by
  rcases h with rfl | rfl | rfl | rfl | rfl <;> kernel_rfl
theorem codeNe (c : Int) (h : c = 0 ∨ c = 1 ∨ c = 3 ∨ c = 4 ∨ c = 9) (w : World) : (binOp .neq 35 (codeV c) .nilIface).run Tryz.prog w = .ok (.bool (c != 0)) w := by
  rcases h with rfl | rfl | rfl | rfl | rfl <;> kernel_rfl
theorem codeG4 (c : Int) (h : c = 0 ∨ c = 1 ∨ c = 3 ∨ c = 4 ∨ c = 9) (a b : Operand) (w : World) : (eqGuard .eql 35 a b (codeV c) (.iface 62 (.int .i64 4))).run Tryz.prog w = .ok () w := by
  rcases h with rfl | rfl | rfl | rfl | rfl <;> rfl
theorem codeGn (c : Int) (h : c = 0 ∨ c = 1 ∨ c = 3 ∨ c = 4 ∨ c = 9) (n : Nat) (w : World) : (eqGuard .neq 35 (.tmp n) (.const .nilIface) (codeV c) .nilIface).run Tryz.prog w = .ok () w := by
  rcases h with rfl | rfl | rfl | rfl | rfl <;> rfl
theorem typed_no {u : Us} {env : List If} {l : Ln} (h : u.imps.find? (isImp l.mod) = none) : ¬ TypedOk u env l := by
  rintro ⟨i, t, f, n, h1, -⟩; rw [h] at h1; cases h1
theorem typed_code {u : Us} {env : List If} {l : Ln} {c : Int} {x : Ty} (h : ExpIs (envU u env) l.ty c x) (hc : c ≠ 0) : ¬ TypedOk u env l := by
  rintro ⟨i, t, f, n, -, h2, -⟩; exact hc (h.uniq h2).1
theorem typed_none {u : Us} {env : List If} {l : Ln} {i : Imp} {f : If} (hi : u.imps.find? (isImp l.mod) = some i) (hf : (env.find? (isIf i)).getD zIfx = f) (hn : hasF f l = none) : ¬ TypedOk u env l := by
  rintro ⟨i', t, f', n, h1, -, h3, h4, -⟩
  rw [hi] at h1
  obtain rfl := Option.some.inj h1
  rw [h3] at hf
  have hf : f' = f := hf
  rw [hf, hn] at h4; cases h4
theorem typed_some {env : List If} {l : Ln} {i : Imp} {f : If} {n : Nm} (hf : (env.find? (isIf i)).getD zIfx = f) (hn : hasF f l = some n) : env.find? (isIf i) = some f := by
  cases h : env.find? (isIf i) with
  | some x => rw [h] at hf; have hf : x = f := hf; rw [hf]
  | none =>
    rw [h] at hf
    have hf : zIfx = f := hf
    rw [← hf, hasF] at hn
    split at hn <;> cases hn
theorem typed_is {u : Us} {env : List If} {l : Ln} {i : Imp} {f : If} {n : Nm} {x : Ty} (hi : u.imps.find? (isImp l.mod) = some i) (hx : ExpIs (envU u env) l.ty 0 x) (hf : env.find? (isIf i) = some f) (hn : hasF f l = some n) :
    TypedOk u env l ↔ ((l.kind = 1 → SubB n.ty x = true) ∧ (l.kind ≠ 1 → sameB n.ty x = true)) := by
  constructor
  · rintro ⟨i', t, f', n', h1, h2, h3, h4, h5, h6⟩
    rw [hi] at h1
    obtain rfl := Option.some.inj h1
    rw [hf] at h3
    obtain rfl := Option.some.inj h3
    rw [hn] at h4
    obtain rfl := Option.some.inj h4
    obtain ⟨-, rfl⟩ := hx.uniq h2
    exact ⟨h5, h6⟩
  · rintro ⟨h5, h6⟩
    exact ⟨i, x, f, n, hi, hx, hf, hn, h5, h6⟩
set_option maxRecDepth 100000 in
set_option maxHeartbeats 40000000 in
theorem typed_c (u : Us) (env : List If) (ia : Option Addr) (ic : Nat) (la : Option Addr) (lc : Nat) (ea : Option Addr) (ec : Nat) (l : Ln) (na : Option Addr) (nc : Nat) (sa : Option Addr) (sc B : Nat) (w : World) (hu : UsM w B u ia ic la lc) (he : EnvI w B env ea ec) (hlf : LnFits l) (ht : TyC w B l.ty (tyCells l.ty na nc sa sc)) (hok : lnOk l = true) (hB : B ≤ w.heap.size) :
    Calls Tryz.prog 40 #[.agg #[.slice ia u.imps.length ic, .slice la u.lines.length lc], .slice ea env.length ec, .agg (lnCells l na nc sa sc)] w (TypedRet u env l w) := by
  have HU := Lib.hid (hu.mono hB)
  have HEV := Lib.hid (he.mono hB)
  have HT := Lib.hid (ht.mono hB)
  have HOK := Lib.hid hok
  have hni := hu.ni
  clear hu he ht hlf hok
  unfold lnCells
  go_enter Tryz.func40, Tryz.ntmps40
  go_upto_region 1 with fail
  obtain ⟨d0, d1, hz, hb⟩ := twoE w #[.slice ia u.imps.length ic, .slice la u.lines.length lc] #[.int .i64 l.kind, .string l.mod, .string l.name, .int .i64 l.ty.kind, .string l.ty.pkg, .int .i64 l.ty.major, .string l.ty.mod, .string l.ty.name, .slice na l.ty.names.length nc, .slice sa l.ty.subs.length sc] 44 85
  generalize ((w.alloc (.cells #[.slice ia u.imps.length ic, .slice la u.lines.length lc] 44)).alloc (.cells #[.int .i64 l.kind, .string l.mod, .string l.name, .int .i64 l.ty.kind, .string l.ty.pkg, .int .i64 l.ty.major, .string l.ty.mod, .string l.ty.name, .slice na l.ty.names.length nc, .slice sa l.ty.subs.length sc] 85)) = W at hb d0 d1 hz ⊢
  have D0 := Lib.hid d0
  have D1 := Lib.hid d1
  have BC := Lib.hid hb
  clear d0 d1 hb
  obtain ⟨m0, m1⟩ := cellsT2 D0.out
  have ml := D0.out.lt
  obtain ⟨k0, k1, k2, k3, k4, k5, k6, k7, k8, k9⟩ := cellsT10 D1.out
  have kl := D1.out.lt
  have hdx := idxImp_c 75 (.pointer (some ⟨w.heap.size + 1, 0, none⟩)) (isImp l.mod) ia ic w.heap.size u.imps W (HU.out.under BC.out).imps BC.out.size hni (by intro a w; rfl) (fun w' hb' x hx => typed1_c x l.mod (w.heap.size + 1) w' ((D1.out.under hb' D1.out.lt).cell 1) (Nat.lt_of_lt_of_le D1.out.lt hb'.size))
  have HDX := Lib.hid hdx
  clear hdx
  go_upto_region 2 with (go_at_call 74; refine (HDX.out).mono ?_; rintro e wn ⟨rfl, hb⟩; have D0 := Lib.hid (D0.out.under hb D0.out.lt); have D1 := Lib.hid (D1.out.under hb D1.out.lt); have BC := Lib.hid (BC.out.trans (hb.mono BC.out.size)); clear hb; clear m0 m1 k0 k1 k2 k3 k4 k5 k6 k7 k8 k9 ml kl; obtain ⟨m0, m1⟩ := cellsT2 D0.out; have ml := D0.out.lt; obtain ⟨k0, k1, k2, k3, k4, k5, k6, k7, k8, k9⟩ := cellsT10 D1.out; have kl := D1.out.lt)
  go_upto_region 3 with fail
  clear m0 m1 k0 k1 k2 k3 k4 k5 k6 k7 k8 k9 ml kl
  obtain ⟨bN, hb, hzN⟩ := laidN wn #[.string { data := #[99] }, .slice ia u.imps.length ic, .slice none 0 0] 25
  generalize (wn.alloc (.cells #[.string { data := #[99] }, .slice ia u.imps.length ic, .slice none 0 0] 25)) = W3 at bN hb hzN ⊢
  have D0 := Lib.hid (D0.out.under hb D0.out.lt)
  have D1 := Lib.hid (D1.out.under hb D1.out.lt)
  have BC := Lib.hid (BC.out.trans (hb.mono BC.out.size))
  have D2 := Lib.hid bN
  clear bN hb hzN
  obtain ⟨m0, m1⟩ := cellsT2 D0.out
  have ml := D0.out.lt
  obtain ⟨k0, k1, k2, k3, k4, k5, k6, k7, k8, k9⟩ := cellsT10 D1.out
  have kl := D1.out.lt
  obtain ⟨o0, o1, o2⟩ := cellsT3 D2.out
  have ol := D2.out.lt
  go_upto_region 4 with (go_at_call 24; refine (expand_c (envU u env) ia ic none 0 ea ec _ l.ty _ _ (envU_c ((HU.out.under BC.out).mono BC.out.size) ((HEV.out.under BC.out).mono BC.out.size)) ((HT.out.under BC.out).mono BC.out.size) (Nat.le_refl _)).mono ?_; rintro e wn ⟨c, t, cs3, rfl, hxi, hxt, hb⟩; have D0 := Lib.hid (D0.out.under hb D0.out.lt); have D1 := Lib.hid (D1.out.under hb D1.out.lt); have D2 := Lib.hid (D2.out.under hb D2.out.lt); have BC := Lib.hid (BC.out.trans (hb.mono BC.out.size)); obtain ⟨na3, nc3, sa3, sc3, f3, rfl, -⟩ := hxt.inv; simp only [tyCells]; have HXI := Lib.hid hxi; have HXT := Lib.hid (hxt.mono (M' := (· < wn.heap.size)) fun b hb => hb.2).toC; clear hxi hxt; clear hb; clear m0 m1 k0 k1 k2 k3 k4 k5 k6 k7 k8 k9 o0 o1 o2 ml kl ol; obtain ⟨m0, m1⟩ := cellsT2 D0.out; have ml := D0.out.lt; obtain ⟨k0, k1, k2, k3, k4, k5, k6, k7, k8, k9⟩ := cellsT10 D1.out; have kl := D1.out.lt; obtain ⟨o0, o1, o2⟩ := cellsT3 D2.out; have ol := D2.out.lt)
  clear m0 m1 k0 k1 k2 k3 k4 k5 k6 k7 k8 k9 o0 o1 o2 ml kl ol
  obtain ⟨bN, hb, hzN⟩ := laidN wn #[.int .i64 t.kind, .string t.pkg, .int .i64 t.major, .string t.mod, .string t.name, .slice na3 t.names.length nc3, .slice sa3 t.subs.length sc3] 53
  generalize (wn.alloc (.cells #[.int .i64 t.kind, .string t.pkg, .int .i64 t.major, .string t.mod, .string t.name, .slice na3 t.names.length nc3, .slice sa3 t.subs.length sc3] 53)) = W4 at bN hb hzN ⊢
  have D0 := Lib.hid (D0.out.under hb D0.out.lt)
  have D1 := Lib.hid (D1.out.under hb D1.out.lt)
  have D2 := Lib.hid (D2.out.under hb D2.out.lt)
  have HXT := Lib.hid ((HXT.out.under hb).mono hb.size)
  have BC := Lib.hid (BC.out.trans (hb.mono BC.out.size))
  have D3 := Lib.hid bN
  clear bN hb hzN
  obtain ⟨m0, m1⟩ := cellsT2 D0.out
  have ml := D0.out.lt
  obtain ⟨k0, k1, k2, k3, k4, k5, k6, k7, k8, k9⟩ := cellsT10 D1.out
  have kl := D1.out.lt
  obtain ⟨o0, o1, o2⟩ := cellsT3 D2.out
  have ol := D2.out.lt
  obtain ⟨t0, t1, t2, t3, t4, t5, t6⟩ := cellsT7 D3.out
  have tl := D3.out.lt
  have hcodes := HXI.out.codes
  have q4 := codeEq4 c hcodes
  have q5 := codeNe c hcodes
  have q6 := codeG4 c hcodes
  have q7 := codeGn c hcodes
  rcases idx_find (p := isImp l.mod) (l := u.imps) with ⟨hf, hq⟩ | ⟨k, hk, hf, hq⟩
  · simp only [hq]
    have HNO := Lib.hid (typed_no (env := env) hf)
    clear hf hq hcodes
    go_wp2_with fail
    go_ret
    exact ⟨_, rfl, BC.out, .inr ⟨⟨_, rfl⟩, HNO.out⟩⟩
  · obtain ⟨i, hi⟩ : ∃ i, u.imps[k] = i := ⟨_, rfl⟩
    simp only [hq]
    have HFI := Lib.hid (show u.imps.find? (isImp l.mod) = some i by rw [hf, hi])
    have HI := Lib.hid hi
    clear hf hq hi
    have hk0 : (0 : Int) ≤ (k : Int) := by omega
    have hkI : (k : Int) < (u.imps.length : Int) := by omega
    have hkn : ¬ (k : Int) < 0 := by omega
    by_cases hc4 : c = 4
    · have hb4 : (c == 4) = true := by simp [hc4]
      have HNO := Lib.hid (typed_code HXI.out (show c ≠ 0 by omega))
      clear hc4 hcodes
      go_wp2_with fail
      go_ret
      exact ⟨_, rfl, BC.out, .inr ⟨⟨_, rfl⟩, HNO.out⟩⟩
    · have hb4 : (c == 4) = false := by simp [hc4]
      have HC4 := Lib.hid hc4
      have HCD := Lib.hid hcodes
      clear hc4 hcodes
      obtain ⟨hfx, bi, oi, hia, hbi, c0, c1, c2, c3⟩ := ((HU.out.under BC.out).mono BC.out.size).imps.elem hk HI.out
      obtain rfl := hia
      obtain ⟨f, hf⟩ : ∃ f, (env.find? (isIf i)).getD zIfx = f := ⟨_, rfl⟩
      have hfi := eFind_c env i ea ec _ _ ((HEV.out.under BC.out).mono BC.out.size).at_ (Nat.le_refl _) HEV.out.ne
      rw [hf] at hfi
      simp only [impCells] at hfi
      have HFD := Lib.hid hfi
      have HF := Lib.hid hf
      have hfl : f.types.length ≤ 1000000 ∧ f.vals.length ≤ 1000000 := by
        rw [← hf]
        cases h : env.find? (isIf i) with
        | none => exact ⟨Nat.zero_le _, Nat.zero_le _⟩
        | some x => exact ⟨HEV.out.nt x (List.mem_of_find?_eq_some h), HEV.out.nv x (List.mem_of_find?_eq_some h)⟩
      have HFL := Lib.hid hfl
      clear hfi hf hfl hfx
      go_upto_region 7 with (go_at_call 76; refine (HFD.out).mono ?_; rintro e wn ⟨cs4, rfl, hic, hb⟩; have D0 := Lib.hid (D0.out.under hb D0.out.lt); have D1 := Lib.hid (D1.out.under hb D1.out.lt); have D2 := Lib.hid (D2.out.under hb D2.out.lt); have D3 := Lib.hid (D3.out.under hb D3.out.lt); have HXT := Lib.hid ((HXT.out.under hb).mono hb.size); have BC := Lib.hid (BC.out.trans (hb.mono BC.out.size)); obtain ⟨hff, ta, tc, va, vc, rfl, hnt, hnv, hl1, hl2⟩ := hic; simp only [ifCells]; have HFT := Lib.hid (hnt.mono hb.size); have HFV := Lib.hid (hnv.mono hb.size); clear hnt hnv hff hl1 hl2 c0 c1 c2 c3; clear hb; clear m0 m1 k0 k1 k2 k3 k4 k5 k6 k7 k8 k9 o0 o1 o2 t0 t1 t2 t3 t4 t5 t6 ml kl ol tl; obtain ⟨m0, m1⟩ := cellsT2 D0.out; have ml := D0.out.lt; obtain ⟨k0, k1, k2, k3, k4, k5, k6, k7, k8, k9⟩ := cellsT10 D1.out; have kl := D1.out.lt; obtain ⟨o0, o1, o2⟩ := cellsT3 D2.out; have ol := D2.out.lt; obtain ⟨t0, t1, t2, t3, t4, t5, t6⟩ := cellsT7 D3.out; have tl := D3.out.lt)
      clear m0 m1 k0 k1 k2 k3 k4 k5 k6 k7 k8 k9 o0 o1 o2 t0 t1 t2 t3 t4 t5 t6 ml kl ol tl
      obtain ⟨bN, hb, hzN⟩ := laidN wn #[.string f.pkg, .int .i64 f.major, .string f.mod, .slice ta f.types.length tc, .slice va f.vals.length vc] 33
      generalize (wn.alloc (.cells #[.string f.pkg, .int .i64 f.major, .string f.mod, .slice ta f.types.length tc, .slice va f.vals.length vc] 33)) = W7 at bN hb hzN ⊢
      have D0 := Lib.hid (D0.out.under hb D0.out.lt)
      have D1 := Lib.hid (D1.out.under hb D1.out.lt)
      have D2 := Lib.hid (D2.out.under hb D2.out.lt)
      have D3 := Lib.hid (D3.out.under hb D3.out.lt)
      have HXT := Lib.hid ((HXT.out.under hb).mono hb.size)
      have HFT := Lib.hid ((HFT.out.under hb).mono hb.size)
      have HFV := Lib.hid ((HFV.out.under hb).mono hb.size)
      have BC := Lib.hid (BC.out.trans (hb.mono BC.out.size))
      have D4 := Lib.hid bN
      clear bN hb hzN
      obtain ⟨m0, m1⟩ := cellsT2 D0.out
      have ml := D0.out.lt
      obtain ⟨k0, k1, k2, k3, k4, k5, k6, k7, k8, k9⟩ := cellsT10 D1.out
      have kl := D1.out.lt
      obtain ⟨o0, o1, o2⟩ := cellsT3 D2.out
      have ol := D2.out.lt
      obtain ⟨t0, t1, t2, t3, t4, t5, t6⟩ := cellsT7 D3.out
      have tl := D3.out.lt
      obtain ⟨f0, f1, f2, f3, f4⟩ := cellsT5 D4.out
      have fl := D4.out.lt
      obtain ⟨r, hr⟩ : ∃ r, hasF f l = r := ⟨_, rfl⟩
      have hhs := usHas_c f l ta tc va vc na nc sa sc _ _ HFT.out HFV.out HFL.out.1 HFL.out.2 (Nat.le_refl _)
      rw [hr] at hhs
      simp only [ifCells, lnCells] at hhs
      obtain ⟨y, hy⟩ : ∃ y, (r.map Nm.ty).getD zT = y := ⟨_, rfl⟩
      rw [hy] at hhs
      have HHS := Lib.hid hhs
      have HRR := Lib.hid hr
      have HY := Lib.hid hy
      clear hhs hr hy
      go_upto_region 8 with (go_at_call 77; refine (HHS.out).mono ?_; rintro e wn ⟨cs5, rfl, hyt, hb⟩; have D0 := Lib.hid (D0.out.under hb D0.out.lt); have D1 := Lib.hid (D1.out.under hb D1.out.lt); have D2 := Lib.hid (D2.out.under hb D2.out.lt); have D3 := Lib.hid (D3.out.under hb D3.out.lt); have D4 := Lib.hid (D4.out.under hb D4.out.lt); have HXT := Lib.hid ((HXT.out.under hb).mono hb.size); have HFT := Lib.hid ((HFT.out.under hb).mono hb.size); have HFV := Lib.hid ((HFV.out.under hb).mono hb.size); have BC := Lib.hid (BC.out.trans (hb.mono BC.out.size)); obtain ⟨na5, nc5, sa5, sc5, f5, rfl, -⟩ := hyt.inv; simp only [tyCells]; have HYT := Lib.hid (hyt.mono hb.size); clear hyt; clear hb; clear m0 m1 k0 k1 k2 k3 k4 k5 k6 k7 k8 k9 o0 o1 o2 t0 t1 t2 t3 t4 t5 t6 f0 f1 f2 f3 f4 ml kl ol tl fl; obtain ⟨m0, m1⟩ := cellsT2 D0.out; have ml := D0.out.lt; obtain ⟨k0, k1, k2, k3, k4, k5, k6, k7, k8, k9⟩ := cellsT10 D1.out; have kl := D1.out.lt; obtain ⟨o0, o1, o2⟩ := cellsT3 D2.out; have ol := D2.out.lt; obtain ⟨t0, t1, t2, t3, t4, t5, t6⟩ := cellsT7 D3.out; have tl := D3.out.lt; obtain ⟨f0, f1, f2, f3, f4⟩ := cellsT5 D4.out; have fl := D4.out.lt)
      clear m0 m1 k0 k1 k2 k3 k4 k5 k6 k7 k8 k9 o0 o1 o2 t0 t1 t2 t3 t4 t5 t6 f0 f1 f2 f3 f4 ml kl ol tl fl
      obtain ⟨bN, hb, hzN⟩ := laidN wn #[.int .i64 y.kind, .string y.pkg, .int .i64 y.major, .string y.mod, .string y.name, .slice na5 y.names.length nc5, .slice sa5 y.subs.length sc5] 53
      generalize (wn.alloc (.cells #[.int .i64 y.kind, .string y.pkg, .int .i64 y.major, .string y.mod, .string y.name, .slice na5 y.names.length nc5, .slice sa5 y.subs.length sc5] 53)) = W8 at bN hb hzN ⊢
      have D0 := Lib.hid (D0.out.under hb D0.out.lt)
      have D1 := Lib.hid (D1.out.under hb D1.out.lt)
      have D2 := Lib.hid (D2.out.under hb D2.out.lt)
      have D3 := Lib.hid (D3.out.under hb D3.out.lt)
      have D4 := Lib.hid (D4.out.under hb D4.out.lt)
      have HXT := Lib.hid ((HXT.out.under hb).mono hb.size)
      have HFT := Lib.hid ((HFT.out.under hb).mono hb.size)
      have HFV := Lib.hid ((HFV.out.under hb).mono hb.size)
      have HYT := Lib.hid ((HYT.out.under hb).mono hb.size)
      have BC := Lib.hid (BC.out.trans (hb.mono BC.out.size))
      have D5 := Lib.hid bN
      clear bN hb hzN
      obtain ⟨m0, m1⟩ := cellsT2 D0.out
      have ml := D0.out.lt
      obtain ⟨k0, k1, k2, k3, k4, k5, k6, k7, k8, k9⟩ := cellsT10 D1.out
      have kl := D1.out.lt
      obtain ⟨o0, o1, o2⟩ := cellsT3 D2.out
      have ol := D2.out.lt
      obtain ⟨t0, t1, t2, t3, t4, t5, t6⟩ := cellsT7 D3.out
      have tl := D3.out.lt
      obtain ⟨f0, f1, f2, f3, f4⟩ := cellsT5 D4.out
      have fl := D4.out.lt
      obtain ⟨y0, y1, y2, y3, y4, y5, y6⟩ := cellsT7 D5.out
      have yl := D5.out.lt
      cases r with
      | none =>
        have HNO := Lib.hid (typed_none HFI.out HF.out HRR.out)
        have isn : (none : Option Nm).isSome = false := rfl
        go_wp2_with fail
        go_ret
        exact ⟨_, rfl, BC.out, .inr ⟨⟨_, rfl⟩, HNO.out⟩⟩
      | some n =>
        have isn : (some n : Option Nm).isSome = true := rfl
        have hyn : y = n.ty := HY.out.symm
        have HYN := Lib.hid hyn
        clear hyn
        by_cases hc0 : c = 0
        · have hb0 : (c != 0) = false := by simp [hc0]
          have hxi := HXI.out
          rw [hc0] at hxi
          have HIS := Lib.hid (typed_is HFI.out hxi (typed_some HF.out HRR.out) HRR.out)
          clear hc0 hxi
          have hkd : l.kind = 1 ∨ l.kind = 2 := by
            have := HOK.out
            simp only [lnOk, Bool.and_eq_true, Bool.or_eq_true, beq_iff_eq] at this
            rcases this.1 with h | h
            · exact .inl h.1
            · exact .inr h.1
          rcases hkd with hkd | hkd
          · have hk1 : (l.kind == 1) = true := by simp [hkd]
            have hk2 : (l.kind == 2) = false := by simp [hkd]
            have HKD := Lib.hid hkd
            clear hkd
            obtain ⟨v, hv⟩ : ∃ v, SubB y t = v := ⟨_, rfl⟩
            have hsb := fun w' (h1 : TyC w' w'.heap.size y (tyCells y na5 nc5 sa5 sc5)) (h2 : TyC w' w'.heap.size t (tyCells t na3 nc3 sa3 sc3)) => Sub_c y t _ _ w'.heap.size w' h1 h2 (Nat.le_refl _)
            simp only [hv] at hsb
            have HSB := Lib.hid hsb
            have HV := Lib.hid hv
            clear hsb hv
            cases v
            · go_wp2_with (go_at_call 78; refine (HSB.out _ HYT.out HXT.out).mono ?_; rintro e wn ⟨rfl, hb⟩; have D0 := Lib.hid (D0.out.under hb D0.out.lt); have D1 := Lib.hid (D1.out.under hb D1.out.lt); have D2 := Lib.hid (D2.out.under hb D2.out.lt); have D3 := Lib.hid (D3.out.under hb D3.out.lt); have D4 := Lib.hid (D4.out.under hb D4.out.lt); have D5 := Lib.hid (D5.out.under hb D5.out.lt); have HXT := Lib.hid ((HXT.out.under hb).mono hb.size); have HFT := Lib.hid ((HFT.out.under hb).mono hb.size); have HFV := Lib.hid ((HFV.out.under hb).mono hb.size); have HYT := Lib.hid ((HYT.out.under hb).mono hb.size); have BC := Lib.hid (BC.out.trans (hb.mono BC.out.size)); clear hb; clear m0 m1 k0 k1 k2 k3 k4 k5 k6 k7 k8 k9 o0 o1 o2 t0 t1 t2 t3 t4 t5 t6 f0 f1 f2 f3 f4 y0 y1 y2 y3 y4 y5 y6 ml kl ol tl fl yl; obtain ⟨m0, m1⟩ := cellsT2 D0.out; have ml := D0.out.lt; obtain ⟨k0, k1, k2, k3, k4, k5, k6, k7, k8, k9⟩ := cellsT10 D1.out; have kl := D1.out.lt; obtain ⟨o0, o1, o2⟩ := cellsT3 D2.out; have ol := D2.out.lt; obtain ⟨t0, t1, t2, t3, t4, t5, t6⟩ := cellsT7 D3.out; have tl := D3.out.lt; obtain ⟨f0, f1, f2, f3, f4⟩ := cellsT5 D4.out; have fl := D4.out.lt; obtain ⟨y0, y1, y2, y3, y4, y5, y6⟩ := cellsT7 D5.out; have yl := D5.out.lt)
              go_ret
              refine ⟨_, rfl, BC.out, .inr ⟨⟨_, rfl⟩, fun h => ?_⟩⟩
              have h1 := (HIS.out.1 h).1 HKD.out
              rw [← HYN.out, HV.out] at h1; cases h1
            · go_wp2_with (go_at_call 78; refine (HSB.out _ HYT.out HXT.out).mono ?_; rintro e wn ⟨rfl, hb⟩; have D0 := Lib.hid (D0.out.under hb D0.out.lt); have D1 := Lib.hid (D1.out.under hb D1.out.lt); have D2 := Lib.hid (D2.out.under hb D2.out.lt); have D3 := Lib.hid (D3.out.under hb D3.out.lt); have D4 := Lib.hid (D4.out.under hb D4.out.lt); have D5 := Lib.hid (D5.out.under hb D5.out.lt); have HXT := Lib.hid ((HXT.out.under hb).mono hb.size); have HFT := Lib.hid ((HFT.out.under hb).mono hb.size); have HFV := Lib.hid ((HFV.out.under hb).mono hb.size); have HYT := Lib.hid ((HYT.out.under hb).mono hb.size); have BC := Lib.hid (BC.out.trans (hb.mono BC.out.size)); clear hb; clear m0 m1 k0 k1 k2 k3 k4 k5 k6 k7 k8 k9 o0 o1 o2 t0 t1 t2 t3 t4 t5 t6 f0 f1 f2 f3 f4 y0 y1 y2 y3 y4 y5 y6 ml kl ol tl fl yl; obtain ⟨m0, m1⟩ := cellsT2 D0.out; have ml := D0.out.lt; obtain ⟨k0, k1, k2, k3, k4, k5, k6, k7, k8, k9⟩ := cellsT10 D1.out; have kl := D1.out.lt; obtain ⟨o0, o1, o2⟩ := cellsT3 D2.out; have ol := D2.out.lt; obtain ⟨t0, t1, t2, t3, t4, t5, t6⟩ := cellsT7 D3.out; have tl := D3.out.lt; obtain ⟨f0, f1, f2, f3, f4⟩ := cellsT5 D4.out; have fl := D4.out.lt; obtain ⟨y0, y1, y2, y3, y4, y5, y6⟩ := cellsT7 D5.out; have yl := D5.out.lt)
              go_ret
              exact ⟨_, rfl, BC.out, .inl ⟨rfl, HIS.out.2 ⟨fun _ => by rw [← HYN.out]; exact HV.out, fun h => absurd HKD.out h⟩⟩⟩
          · have hk1 : (l.kind == 1) = false := by simp [hkd]
            have hk2 : (l.kind == 2) = true := by simp [hkd]
            have HKD := Lib.hid hkd
            clear hkd
            obtain ⟨v, hv⟩ : ∃ v, (mayT y && mayT t && alikeT y t) = v := ⟨_, rfl⟩
            have hsb := fun w' (h1 : TyC w' w'.heap.size y (tyCells y na5 nc5 sa5 sc5)) (h2 : TyC w' w'.heap.size t (tyCells t na3 nc3 sa3 sc3)) => Same_c y t _ _ w'.heap.size w' h1 h2 (Nat.le_refl _)
            simp only [hv] at hsb
            have HSB := Lib.hid hsb
            have HV := Lib.hid hv
            clear hsb hv
            cases v
            · go_wp2_with (go_at_call 63; refine (HSB.out _ HYT.out HXT.out).mono ?_; rintro e wn ⟨rfl, hb⟩; have D0 := Lib.hid (D0.out.under hb D0.out.lt); have D1 := Lib.hid (D1.out.under hb D1.out.lt); have D2 := Lib.hid (D2.out.under hb D2.out.lt); have D3 := Lib.hid (D3.out.under hb D3.out.lt); have D4 := Lib.hid (D4.out.under hb D4.out.lt); have D5 := Lib.hid (D5.out.under hb D5.out.lt); have HXT := Lib.hid ((HXT.out.under hb).mono hb.size); have HFT := Lib.hid ((HFT.out.under hb).mono hb.size); have HFV := Lib.hid ((HFV.out.under hb).mono hb.size); have HYT := Lib.hid ((HYT.out.under hb).mono hb.size); have BC := Lib.hid (BC.out.trans (hb.mono BC.out.size)); clear hb; clear m0 m1 k0 k1 k2 k3 k4 k5 k6 k7 k8 k9 o0 o1 o2 t0 t1 t2 t3 t4 t5 t6 f0 f1 f2 f3 f4 y0 y1 y2 y3 y4 y5 y6 ml kl ol tl fl yl; obtain ⟨m0, m1⟩ := cellsT2 D0.out; have ml := D0.out.lt; obtain ⟨k0, k1, k2, k3, k4, k5, k6, k7, k8, k9⟩ := cellsT10 D1.out; have kl := D1.out.lt; obtain ⟨o0, o1, o2⟩ := cellsT3 D2.out; have ol := D2.out.lt; obtain ⟨t0, t1, t2, t3, t4, t5, t6⟩ := cellsT7 D3.out; have tl := D3.out.lt; obtain ⟨f0, f1, f2, f3, f4⟩ := cellsT5 D4.out; have fl := D4.out.lt; obtain ⟨y0, y1, y2, y3, y4, y5, y6⟩ := cellsT7 D5.out; have yl := D5.out.lt)
              go_ret
              refine ⟨_, rfl, BC.out, .inr ⟨⟨_, rfl⟩, fun h => ?_⟩⟩
              have h1 := (HIS.out.1 h).2 (by have := HKD.out; omega)
              rw [← HYN.out] at h1
              have h2 : (mayT y && mayT t && alikeT y t) = true := h1
              rw [HV.out] at h2; cases h2
            · go_wp2_with (go_at_call 63; refine (HSB.out _ HYT.out HXT.out).mono ?_; rintro e wn ⟨rfl, hb⟩; have D0 := Lib.hid (D0.out.under hb D0.out.lt); have D1 := Lib.hid (D1.out.under hb D1.out.lt); have D2 := Lib.hid (D2.out.under hb D2.out.lt); have D3 := Lib.hid (D3.out.under hb D3.out.lt); have D4 := Lib.hid (D4.out.under hb D4.out.lt); have D5 := Lib.hid (D5.out.under hb D5.out.lt); have HXT := Lib.hid ((HXT.out.under hb).mono hb.size); have HFT := Lib.hid ((HFT.out.under hb).mono hb.size); have HFV := Lib.hid ((HFV.out.under hb).mono hb.size); have HYT := Lib.hid ((HYT.out.under hb).mono hb.size); have BC := Lib.hid (BC.out.trans (hb.mono BC.out.size)); clear hb; clear m0 m1 k0 k1 k2 k3 k4 k5 k6 k7 k8 k9 o0 o1 o2 t0 t1 t2 t3 t4 t5 t6 f0 f1 f2 f3 f4 y0 y1 y2 y3 y4 y5 y6 ml kl ol tl fl yl; obtain ⟨m0, m1⟩ := cellsT2 D0.out; have ml := D0.out.lt; obtain ⟨k0, k1, k2, k3, k4, k5, k6, k7, k8, k9⟩ := cellsT10 D1.out; have kl := D1.out.lt; obtain ⟨o0, o1, o2⟩ := cellsT3 D2.out; have ol := D2.out.lt; obtain ⟨t0, t1, t2, t3, t4, t5, t6⟩ := cellsT7 D3.out; have tl := D3.out.lt; obtain ⟨f0, f1, f2, f3, f4⟩ := cellsT5 D4.out; have fl := D4.out.lt; obtain ⟨y0, y1, y2, y3, y4, y5, y6⟩ := cellsT7 D5.out; have yl := D5.out.lt)
              go_ret
              exact ⟨_, rfl, BC.out, .inl ⟨rfl, HIS.out.2 ⟨fun h => by have := HKD.out; omega, fun _ => by rw [← HYN.out]; exact HV.out⟩⟩⟩
        · have hb0 : (c != 0) = true := by simp [hc0]
          have HC0 := Lib.hid hc0
          have HNO := Lib.hid (typed_code HXI.out hc0)
          clear hc0
          go_wp2_with fail
          go_ret
          exact ⟨_, rfl, BC.out, .inr ⟨⟨c, codeV_ne HC0.out⟩, HNO.out⟩⟩
theorem usChk1_c (x : Imp) (s : ByteArray) (g : Nat) (w : World) (h3 : w.cell? ⟨g, 3, none⟩ = some (.string s)) (hlt : g < w.heap.size) :
    Calls Tryz.prog 39 #[.agg (impCells x), .pointer (some ⟨g, 0, none⟩)] w fun e w' => e = .returned (.bool (x.asN.toList == s.toList)) ∧ Below w.heap.size w w' := by
  simp only [impCells]
  go_enter Tryz.func39, Tryz.ntmps39
  go_wp2_with fail
  go_ret
  exact ⟨rfl, (Below.refl _ _).alloc (Nat.le_refl _) _⟩
def UsesRet (u : Us) (env : List If) (w : World) (e : Ending) (w' : World) : Prop := ∃ v, e = .returned v ∧ Below w.heap.size w w' ∧ ((v = .nilIface ∧ UsesOk u env) ∨ ((∃ T p, v = .iface T p) ∧ ¬ UsesOk u env))
theorem lns_ok {u : Us} (h : mayU u = true) {l : Ln} (hl : l ∈ u.lines) : lnOk l = true := by
  simp only [mayU, Bool.and_eq_true, List.all_eq_true] at h
  exact h.2.2.2 l hl
set_option maxRecDepth 100000 in
set_option maxHeartbeats 40000000 in
theorem usesCheck_c (u : Us) (env : List If) (ia : Option Addr) (ic : Nat) (la : Option Addr) (lc : Nat) (ea : Option Addr) (ec B : Nat) (w : World) (hu : UsM w B u ia ic la lc) (he : EnvI w B env ea ec) (hB : B ≤ w.heap.size) :
    Calls Tryz.prog 19 #[.agg #[.slice ia u.imps.length ic, .slice la u.lines.length lc], .slice ea env.length ec] w (UsesRet u env w) := by
  have HU := Lib.hid hu
  have HEV := Lib.hid he
  have hmy := fun W (hb : Below w.heap.size w W) => usMay_c u ia ic la lc B W (hu.under (hb.mono hB)) (Nat.le_trans hB hb.size)
  have hni := hu.ni
  have hnl := hu.nl
  obtain ⟨q, hq⟩ : ∃ q, mayU u = q := ⟨_, rfl⟩
  simp only [hq] at hmy
  have HMY := Lib.hid hmy
  have HQ := Lib.hid hq
  clear hmy hu he hq
  go_enter Tryz.func19, Tryz.ntmps19
  go_upto_region 1 with fail
  obtain ⟨b1, hb1, hz1⟩ := laidN w #[.slice ia u.imps.length ic, .slice la u.lines.length lc] 44
  generalize w.alloc (.cells #[.slice ia u.imps.length ic, .slice la u.lines.length lc] 44) = W1 at b1 hb1 hz1 ⊢
  obtain ⟨x0, x1⟩ := cellsT2 b1
  have lg0 := b1.lt
  have B1 := Lib.hid hb1
  have D1 := Lib.hid b1
  clear b1 hb1
  cases q
  · have HNO := Lib.hid (show ¬ UsesOk u env from fun h => by have := h.1; rw [HQ.out] at this; cases this)
    go_wp2_with (go_at_call 37; refine (HMY.out _ B1.out).mono ?_; rintro e W2 ⟨rfl, hb⟩; have B2 := Lib.hid (B1.out.trans (hb.mono B1.out.size)); clear hb)
    go_ret
    exact ⟨_, rfl, B2.out, .inr ⟨⟨_, _, rfl⟩, HNO.out⟩⟩
  by_cases h100 : 100 < (env.length : Int)
  · have HNO := Lib.hid (show ¬ UsesOk u env from fun h => by have := h.2.1; omega)
    go_wp2_with (go_at_call 37; refine (HMY.out _ B1.out).mono ?_; rintro e W2 ⟨rfl, hb⟩; have B2 := Lib.hid (B1.out.trans (hb.mono B1.out.size)); clear hb)
    go_ret
    exact ⟨_, rfl, B2.out, .inr ⟨⟨_, _, rfl⟩, HNO.out⟩⟩
  go_upto_region 3 with (go_at_call 37; refine (HMY.out _ B1.out).mono ?_; rintro e W2 ⟨rfl, hb⟩; have B2 := Lib.hid (B1.out.trans (hb.mono B1.out.size)); have D2 := Lib.hid (D1.out.under hb D1.out.lt); clear hb x0 x1 lg0; obtain ⟨x0, x1⟩ := cellsT2 D2.out; have lg0 := D2.out.lt)
  have hz2 : w.heap.size < W2.heap.size := D2.out.lt
  have H100 := Lib.hid (show env.length ≤ 100 by omega)
  clear h100
  go_wp2
  go_loopw [22] (fun iv wr => ∃ k : Nat, k ≤ u.imps.length ∧ iv = .int .i64 k ∧ Below W2.heap.size W2 wr ∧ ∀ i, i < k → twiceI u.imps i = false) (fun iv _ => u.imps.length - (intOf iv).toNat)
  case atStart => exact ⟨0, Nat.zero_le _, rfl, Below.refl _ _, fun i hi => absurd hi (by omega)⟩
  case round =>
    rename World => wr
    obtain ⟨k, hk, rfl, hbr, hall⟩ := hrel
    have HBR := Lib.hid hbr
    have HA := Lib.hid hall
    have BR := Lib.hid (B2.out.trans (hbr.mono B2.out.size))
    have hBr : B ≤ wr.heap.size := Nat.le_trans hB BR.out.size
    have DR := Lib.hid (D2.out.under (hbr.mono (Nat.le_refl _)) D2.out.lt)
    clear hbr hall x0 x1 lg0
    obtain ⟨x0, x1⟩ := cellsT2 DR.out
    have lg0 := DR.out.lt
    by_cases hlt : k < u.imps.length
    · have hltI : (k : Int) < (u.imps.length : Int) := by omega
      obtain ⟨x, hx⟩ : ∃ x, u.imps[k] = x := ⟨_, rfl⟩
      obtain ⟨hfx, bi, oi, hia, hbi, c0, c1, c2, c3⟩ := (HU.out.imps.under (BR.out.mono hB)).elem hlt hx
      obtain rfl := hia
      have lbi : bi < wr.heap.size := by omega
      have hcap := HU.out.icap
      have hcapI : (k : Int) ≤ (ic : Int) := by omega
      have HX := Lib.hid hx
      clear hx hfx hcap
      go_upto_region 6 with fail
      clear c0 c1 c2 c3 x0 x1 lg0
      obtain ⟨b3, hb3, hz3⟩ := laidN wr #[.string x.pkg, .int .i64 x.major, .string x.mod, .string x.asN] 72
      generalize wr.alloc (.cells #[.string x.pkg, .int .i64 x.major, .string x.mod, .string x.asN] 72) = W3 at b3 hb3 hz3 ⊢
      have D3 := Lib.hid (DR.out.under hb3 DR.out.lt)
      have E3 := Lib.hid b3
      have B3 := Lib.hid (BR.out.trans (hb3.mono BR.out.size))
      have HB3 := Lib.hid (HBR.out.trans (hb3.mono HBR.out.size))
      have hB3 : B ≤ W3.heap.size := Nat.le_trans hB B3.out.size
      obtain ⟨x0, x1⟩ := cellsT2 D3.out
      have lg0 := D3.out.lt
      clear b3 hb3
      have hlen : (u.imps.take k).length = k := by rw [List.length_take]; omega
      have hc := conImp_c 39 (.pointer (some ⟨wr.heap.size, 0, none⟩)) (fun y => y.asN.toList == x.asN.toList) (some ⟨bi, oi, none⟩) ic B (u.imps.take k) W3 ((HU.out.imps.take k).under (B3.out.mono hB)) hB3 (by omega) (by intro a w; rfl)
        (fun w' hb' y hy => usChk1_c y x.asN wr.heap.size w' ((E3.out.under hb' E3.out.lt).cell 3) (Nat.lt_of_lt_of_le E3.out.lt hb'.size))
      rw [show (u.imps.take k).any (fun y => y.asN.toList == x.asN.toList) = twiceI u.imps k by rw [twiceI, List.getElem?_eq_getElem hlt, HX.out], hlen] at hc
      obtain ⟨q, hq⟩ : ∃ q, twiceI u.imps k = q := ⟨_, rfl⟩
      rw [hq] at hc
      have HC := Lib.hid hc
      have HQ2 := Lib.hid hq
      clear hc hq hlen
      cases q
      · go_wp2_with (go_at_call 38; refine HC.out.mono ?_; rintro e w4 ⟨rfl, hb⟩; have B4 := Lib.hid (HB3.out.trans (hb.mono HB3.out.size)); clear hb)
        have hnew : ∀ i, i < k + 1 → twiceI u.imps i = false := fun i hi => by
          by_cases e : i = k
          · subst e; exact HQ2.out
          · exact HA.out i (by omega)
        first
          | exact ⟨⟨k + 1, by omega, by go_num, B4.out, hnew⟩, by simp [intOf]; omega⟩
          | (go_roundw
             case rel => exact ⟨k + 1, by omega, by go_num, B4.out, hnew⟩
             case measure => simp [intOf]; omega)
      · have HNO := Lib.hid (show ¬ UsesOk u env from fun h => by have := h.2.2.1 k hlt; rw [HQ2.out] at this; cases this)
        go_wp2_with (go_at_call 38; refine HC.out.mono ?_; rintro e w4 ⟨rfl, hb⟩; have B4 := Lib.hid (B3.out.trans (hb.mono B3.out.size)); clear hb)
        go_ret
        exact ⟨_, rfl, B4.out.alloc B4.out.size _, .inr ⟨⟨_, _, rfl⟩, HNO.out⟩⟩
    · obtain rfl : k = u.imps.length := by omega
      have hltI : ¬ (u.imps.length : Int) < (u.imps.length : Int) := by omega
      clear HBR
      go_upto_region 9 with fail
      go_wp2
      go_loopw [42] (fun iv wx => ∃ k : Nat, k ≤ u.lines.length ∧ iv = .int .i64 k ∧ Below wr.heap.size wr wx ∧ ∀ i (h : i < u.lines.length), i < k → TypedOk u env u.lines[i]) (fun iv _ => u.lines.length - (intOf iv).toNat)
      case atStart => exact ⟨0, Nat.zero_le _, rfl, Below.refl _ _, fun i _ hi => absurd hi (by omega)⟩
      case round =>
        rename World => wx
        obtain ⟨k2, hk2, rfl, hbx, hall2⟩ := hrel
        have HX := Lib.hid hbx
        have HA2 := Lib.hid hall2
        have BX := Lib.hid (BR.out.trans (hbx.mono BR.out.size))
        have hBx : B ≤ wx.heap.size := Nat.le_trans hB BX.out.size
        have DX := Lib.hid (DR.out.under hbx DR.out.lt)
        clear hbx hall2 x0 x1 lg0
        obtain ⟨x0, x1⟩ := cellsT2 DX.out
        have lg0 := DX.out.lt
        by_cases hlt : k2 < u.lines.length
        · have hlt2 : (k2 : Int) < (u.lines.length : Int) := by omega
          obtain ⟨l, hl⟩ : ∃ l, u.lines[k2] = l := ⟨_, rfl⟩
          obtain ⟨hfl, bi, oi, na, nc, sa, sc, hla, hbi, hty, c0, c1, c2, c3, c4, c5, c6, c7, c8, c9⟩ := (HU.out.lines.under (BX.out.mono hB)).elem hlt hl
          obtain rfl := hla
          have lbi : bi < wx.heap.size := by omega
          have HL := Lib.hid hl
          have hok := lns_ok HQ.out (show l ∈ u.lines by rw [← hl]; exact List.getElem_mem hlt)
          have hct := fun W (hb : Below wx.heap.size wx W) => typed_c u env ia ic (some ⟨bi, oi, none⟩) lc ea ec l na nc sa sc B W (HU.out.under ((BX.out.trans (hb.mono BX.out.size)).mono hB)) (HEV.out.under ((BX.out.trans (hb.mono BX.out.size)).mono hB)) hfl (hty.under (hb.mono hBx)) hok (Nat.le_trans hBx hb.size)
          simp only [lnCells] at hct
          have HCT := Lib.hid hct
          clear hct hl hfl hty hok
          go_upto_region 12 with fail
          clear c0 c1 c2 c3 c4 c5 c6 c7 c8 c9 x0 x1 lg0 lbi
          obtain ⟨b3, hb3, hz3⟩ := laidN wx #[.int .i64 l.kind, .string l.mod, .string l.name, .int .i64 l.ty.kind, .string l.ty.pkg, .int .i64 l.ty.major, .string l.ty.mod, .string l.ty.name, .slice na l.ty.names.length nc, .slice sa l.ty.subs.length sc] 85
          generalize wx.alloc (.cells #[.int .i64 l.kind, .string l.mod, .string l.name, .int .i64 l.ty.kind, .string l.ty.pkg, .int .i64 l.ty.major, .string l.ty.mod, .string l.ty.name, .slice na l.ty.names.length nc, .slice sa l.ty.subs.length sc] 85) = W3 at b3 hb3 hz3 ⊢
          have D3 := Lib.hid (DX.out.under hb3 DX.out.lt)
          have B3 := Lib.hid (BX.out.trans (hb3.mono BX.out.size))
          have HB3 := Lib.hid (HX.out.trans (hb3.mono HX.out.size))
          have HC := Lib.hid (HCT.out W3 hb3)
          obtain ⟨x0, x1⟩ := cellsT2 D3.out
          have lg0 := D3.out.lt
          obtain ⟨k0, k1, k2, k3, k4, k5, k6, k7, k8, k9⟩ := cellsT10 b3
          have kl := b3.lt
          clear b3 hb3 HCT
          go_upto_region 13 with (go_at_call 40; refine HC.out.mono ?_; rintro e w4 ⟨v, rfl, hb, hv⟩; have HV := Lib.hid hv; have B4 := Lib.hid (HB3.out.trans (hb.mono HB3.out.size)); have B5 := Lib.hid (B3.out.trans (hb.mono B3.out.size)); clear hb hv x0 x1 lg0 k0 k1 k2 k3 k4 k5 k6 k7 k8 k9 kl)
          rcases HV.out with ⟨rfl, hok⟩ | ⟨⟨c, rfl⟩, hno⟩
          · have hnew : ∀ i (h : i < u.lines.length), i < k2 + 1 → TypedOk u env u.lines[i] := fun i hi hik => by
              by_cases e : i = k2
              · subst e; rw [HL.out]; exact hok
              · exact HA2.out i hi (by omega)
            have HNEW := Lib.hid hnew
            clear hnew hok
            go_wp2_with fail
            first
              | exact ⟨⟨k2 + 1, by omega, by go_num, B4.out, HNEW.out⟩, by simp [intOf]; omega⟩
              | (go_roundw
                 case rel => exact ⟨k2 + 1, by omega, by go_num, B4.out, HNEW.out⟩
                 case measure => simp [intOf]; omega)
          · have HNO := Lib.hid (show ¬ UsesOk u env from fun h => hno (by have := h.2.2.2 u.lines[k2] (List.getElem_mem hlt); rwa [HL.out] at this))
            clear hno
            go_wp2_with fail
            go_ret
            exact ⟨_, rfl, B5.out.alloc B5.out.size _, .inr ⟨⟨_, _, rfl⟩, HNO.out⟩⟩
        · obtain rfl : k2 = u.lines.length := by omega
          have hlt2 : ¬ (u.lines.length : Int) < (u.lines.length : Int) := by omega
          have HOK := Lib.hid (show UsesOk u env from ⟨HQ.out, H100.out, fun i hi => HA.out i hi, fun l hl => by obtain ⟨i, hi, rfl⟩ := List.getElem_of_mem hl; exact HA2.out i hi hi⟩)
          go_wp2_with fail
          go_ret
          exact ⟨_, rfl, BX.out, .inl ⟨rfl, HOK.out⟩⟩
end Go.Proofs.YtjeldfipipkfiaaGreat
namespace Go.Proofs.YtjeldfipipkfiaaGreat
open Go.RowKit
set_option linter.unusedSimpArgs false
set_option linter.unusedVariables false
def FewURet (n k : Nat) (w : World) (e : Ending) (w' : World) : Prop := ∃ q, e = .returned (.bool q) ∧ Below w.heap.size w w' ∧ (q = true → n ≤ 100 ∧ k ≤ 100)
set_option maxRecDepth 100000 in
set_option maxHeartbeats 40000000 in
theorem fewU_c (n : Nat) (l : List Ln) (ia : Option Addr) (ic : Nat) (la : Option Addr) (lc B : Nat) (w : World) (hl : LnsAt w B la l) (hn : n ≤ maxLen) (hk : l.length ≤ maxLen) (hB : B ≤ w.heap.size) :
    Calls Tryz.prog 17 #[.agg #[.slice ia n ic, .slice la l.length lc]] w (FewURet n l.length w) := by
  unfold maxLen at hn hk
  have HL := Lib.hid hl
  clear hl
  go_enter Tryz.func17, Tryz.ntmps17
  go_upto_region 1 with fail
  obtain ⟨b1, hb1, -⟩ := laidN w #[.slice ia n ic, .slice la l.length lc] 44
  generalize w.alloc (.cells #[.slice ia n ic, .slice la l.length lc] 44) = W1 at b1 hb1 ⊢
  obtain ⟨x0, x1⟩ := cellsT2 b1
  have lg0 := b1.lt
  have B1 := Lib.hid hb1
  have D1 := Lib.hid b1
  clear b1 hb1
  by_cases h1 : 100 < (n : Int)
  · go_wp2_with fail
    go_ret
    exact ⟨_, rfl, B1.out, fun h => nomatch h⟩
  by_cases h2 : 100 < (l.length : Int)
  · go_wp2_with fail
    go_ret
    exact ⟨_, rfl, B1.out, fun h => nomatch h⟩
  have HN := Lib.hid (show n ≤ 100 ∧ l.length ≤ 100 by omega)
  go_wp2_with fail
  clear x0 x1 lg0
  go_loopw [3] (fun iv wr => ∃ k : Nat, k ≤ l.length ∧ iv = .int .i64 k ∧ Below W1.heap.size W1 wr) (fun iv _ => l.length - (intOf iv).toNat)
  case atStart => exact ⟨0, Nat.zero_le _, rfl, Below.refl _ _⟩
  case round =>
    rename World => wr
    obtain ⟨k, hk, rfl, hb⟩ := hrel
    have BR := Lib.hid (B1.out.trans (hb.mono B1.out.size))
    have BS := Lib.hid hb
    have D2 := D1.out.under hb D1.out.lt
    obtain ⟨x0, x1⟩ := cellsT2 D2
    have lg0 := D2.lt
    clear hb D2
    by_cases hlt : k < l.length
    rotate_left
    · obtain rfl : k = l.length := by omega
      have hltI : ¬ (l.length : Int) < (l.length : Int) := by omega
      go_wp2_with fail
      go_ret
      exact ⟨_, rfl, BR.out, fun _ => HN.out⟩
    have hltI : (k : Int) < (l.length : Int) := by omega
    obtain ⟨x, hx⟩ : ∃ x, l[k] = x := ⟨_, rfl⟩
    obtain ⟨fx, b, o, na, nc, sa, sc, rfl, hbB, hty, e0, e1, e2, e3, e4, e5, e6, e7, e8, e9⟩ := (HL.out.under (BR.out.mono hB)).elem hlt hx
    have hC := fun w2 ht hB2 => Few_c x.ty (tyCells x.ty na nc sa sc) B w2 ht hB2
    simp only [tyCells] at hC
    have HC := Lib.hid hC
    have HTY := Lib.hid hty
    simp only [tyCells] at HTY
    obtain ⟨v, hv⟩ : ∃ v, FewB x.ty = v := ⟨_, rfl⟩
    rw [hv] at HC
    have hw2 := BR.out.size
    have fxn := fx.name
    unfold maxLen at fxn
    clear hC hty hv hx
    have hbw : b < wr.heap.size := by omega
    have HE2 := Lib.hid e2
    cases v
    · go_wp2_with (go_at_call 20; refine (HC.out _ HTY.out (by omega)).mono ?_; rintro e w3 ⟨rfl, hb3⟩)
      go_ret
      exact ⟨_, rfl, BR.out.trans (hb3.mono (by omega)), fun h => nomatch h⟩
    · by_cases h5 : 500 < (x.name.size : Int)
      · go_wp2_with (go_at_call 20; refine (HC.out _ HTY.out (by omega)).mono ?_; rintro e w3 ⟨rfl, hb3⟩; have e2' := (hb3.cell (p := ⟨b, _, none⟩) hbw).trans HE2.out; have x1' := (hb3.cell (p := ⟨w.heap.size, 1, none⟩) lg0).trans x1; have hz3 := hb3.size; have B3 := Lib.hid hb3; clear hb3)
        go_ret
        exact ⟨_, rfl, BR.out.trans (B3.out.mono (by omega)), fun h => nomatch h⟩
      · go_wp2_with (go_at_call 20; refine (HC.out _ HTY.out (by omega)).mono ?_; rintro e w3 ⟨rfl, hb3⟩; have e2' := (hb3.cell (p := ⟨b, _, none⟩) hbw).trans HE2.out; have x1' := (hb3.cell (p := ⟨w.heap.size, 1, none⟩) lg0).trans x1; have hz3 := hb3.size; have B3 := Lib.hid hb3; clear hb3)
        exact ⟨⟨k + 1, by omega, by go_num, BS.out.trans (B3.out.mono BS.out.size)⟩, by simp [intOf]; omega⟩
end Go.Proofs.YtjeldfipipkfiaaGreat
namespace Go.Proofs.YtjeldfipipkfiaaGreat
open Go.ChangeShapes Go.WideShapes Go.ChangeAt Go.RowKit Go.Deep
section
variable {H : Type} {enc : TypeId × Value → H} {w : World} {base : Nat} {spare : Nat → Bool} {held : Bool}
set_option linter.unusedSimpArgs false
set_option linter.unusedVariables false
set_option maxRecDepth 100000 in
theorem ln_trod (fuel : Nat) (cs : List Value) (x : DataW H × List MemPlace) (h : DataW.trod enc Tryz.prog w base spare held fuel 85 cs = some x) : ∃ t, LnC w w.heap.size t cs.toArray := by
  obtain ⟨xs, n, rfl, -, hcl, hxl, hf⟩ := DataW.trod_struct Tryz.underlying85 h
  have hC : Program.cellsOf Tryz.prog 85 = 10 := by kernel_rfl
  have hC1 : Program.cellsOf Tryz.prog 9 = 1 := by kernel_rfl
  have hC2 : Program.cellsOf Tryz.prog 3 = 1 := by kernel_rfl
  have hC3 : Program.cellsOf Tryz.prog 53 = 7 := by kernel_rfl
  rw [hC] at hcl
  match cs, hcl with
  | [c0, c1, c2, c3, c4, c5, c6, c7, c8, c9], _ =>
  match xs, hxl with
  | [y0, y1, y2, y3], _ =>
  have e0 : DataW.trod enc Tryz.prog w base spare held n 3 (([c0, c1, c2, c3, c4, c5, c6, c7, c8, c9].drop 0).take (Program.cellsOf Tryz.prog 3)) = some y0 := hf 0 _ rfl
  have e1 : DataW.trod enc Tryz.prog w base spare held n 9 (([c0, c1, c2, c3, c4, c5, c6, c7, c8, c9].drop 1).take (Program.cellsOf Tryz.prog 9)) = some y1 := hf 1 _ rfl
  have e2 : DataW.trod enc Tryz.prog w base spare held n 9 (([c0, c1, c2, c3, c4, c5, c6, c7, c8, c9].drop 2).take (Program.cellsOf Tryz.prog 9)) = some y2 := hf 2 _ rfl
  have e3 : DataW.trod enc Tryz.prog w base spare held n 53 (([c0, c1, c2, c3, c4, c5, c6, c7, c8, c9].drop 3).take (Program.cellsOf Tryz.prog 53)) = some y3 := hf 3 _ rfl
  rw [hC2] at e0
  rw [hC1] at e1 e2
  rw [hC3] at e3
  change DataW.trod enc Tryz.prog w base spare held n 3 [c0] = some y0 at e0
  change DataW.trod enc Tryz.prog w base spare held n 9 [c1] = some y1 at e1
  change DataW.trod enc Tryz.prog w base spare held n 9 [c2] = some y2 at e2
  change DataW.trod enc Tryz.prog w base spare held n 53 [c3, c4, c5, c6, c7, c8, c9] = some y3 at e3
  obtain ⟨k, h0, -, w0⟩ := DataW.trod_int Tryz.underlying3 e0
  obtain ⟨mo, h1, -, w1⟩ := DataW.trod_string Tryz.underlying9 e1
  obtain ⟨nm, h2, -, w2⟩ := DataW.trod_string Tryz.underlying9 e2
  obtain ⟨t, ht⟩ := type_trod _ _ _ e3
  obtain ⟨na, nc, sa, sc, f, hc, -⟩ := ht.inv
  refine ⟨⟨k, mo, nm, t⟩, ⟨bounds_i64 w0, w1, w2⟩, na, nc, sa, sc, ?_, by rw [← hc]; exact ht⟩
  simp only [List.cons.injEq, and_true] at h0 h1 h2
  subst h0 h1 h2
  simp [tyCells] at hc
  simp [lnCells, hc]
structure UsO (w : World) (B : Nat) (u : Us) (ia : Option Addr) (ic : Nat) (la : Option Addr) (lc : Nat) : Prop where
  imps : ImpsAt w B ia u.imps
  lines : LnsAt w B la u.lines
  ni : u.imps.length ≤ maxLen
  nl : u.lines.length ≤ maxLen
  icap : u.imps.length ≤ ic
  lcap : u.lines.length ≤ lc
theorem UsO.under {w w' : World} {B : Nat} {u : Us} {ia : Option Addr} {ic : Nat} {la : Option Addr} {lc : Nat} (h : UsO w B u ia ic la lc) (hb : Below B w w') : UsO w' B u ia ic la lc := ⟨h.imps.under hb, h.lines.under hb, h.ni, h.nl, h.icap, h.lcap⟩
theorem UsO.few {w : World} {B : Nat} {u : Us} {ia : Option Addr} {ic : Nat} {la : Option Addr} {lc : Nat} (h : UsO w B u ia ic la lc) (hf : u.imps.length ≤ 100 ∧ u.lines.length ≤ 100) : UsM w B u ia ic la lc := ⟨h.imps, h.lines, by omega, by omega, h.icap, h.lcap⟩
set_option maxRecDepth 100000 in
theorem us_trod {fuel : Nat} {cs : List Value} {x : DataW H × List MemPlace} (h : DataW.trod enc Tryz.prog w base spare held fuel 44 cs = some x) :
    ∃ u ia ic la lc, cs = [Value.slice ia u.imps.length ic, .slice la u.lines.length lc] ∧ UsO w w.heap.size u ia ic la lc := by
  obtain ⟨xs, n, rfl, -, hcl, hxl, hf⟩ := DataW.trod_struct Tryz.underlying44 h
  have hC : Program.cellsOf Tryz.prog 44 = 2 := by kernel_rfl
  have hC2 : Program.cellsOf Tryz.prog 22 = 1 := by kernel_rfl
  have hC3 : Program.cellsOf Tryz.prog 42 = 1 := by kernel_rfl
  rw [hC] at hcl
  match cs, hcl with
  | [c0, c1], _ =>
  match xs, hxl with
  | [y0, y1], _ =>
  have e0 : DataW.trod enc Tryz.prog w base spare held n 22 (([c0, c1].drop 0).take (Program.cellsOf Tryz.prog 22)) = some y0 := hf 0 _ rfl
  have e1 : DataW.trod enc Tryz.prog w base spare held n 42 (([c0, c1].drop 1).take (Program.cellsOf Tryz.prog 42)) = some y1 := hf 1 _ rfl
  rw [hC2] at e0
  rw [hC3] at e1
  change DataW.trod enc Tryz.prog w base spare held n 22 [c0] = some y0 at e0
  change DataW.trod enc Tryz.prog w base spare held n 42 [c1] = some y1 at e1
  obtain ⟨ia, ic, il, fi, h1, hi1, hi2, hi3, hi4⟩ := row_trod (K := 4) (Q := fun t cs => ImpFits t ∧ cs = impCells t) ⟨{ data := #[] }, 0, { data := #[] }, { data := #[] }⟩ Tryz.underlying22 (by kernel_rfl) (by decide) imp_trod e0
  obtain ⟨la, lc, ll, fl, h2, hd1, hd2, hd3, hd4⟩ := row_trod (K := 10) (Q := LnC w w.heap.size) ⟨0, { data := #[] }, { data := #[] }, .mk 0 { data := #[] } 0 { data := #[] } { data := #[] } [] []⟩ Tryz.underlying42 (by kernel_rfl) (by decide) ln_trod e1
  simp only [List.cons.injEq, and_true] at h1 h2
  subst h1 h2
  exact ⟨⟨il, ll⟩, ia, ic, la, lc, rfl, ⟨⟨fi, hi3, hi4⟩, ⟨fl, hd3, hd4⟩, Nat.le_trans hi1 hi2, Nat.le_trans hd1 hd2, hi1, hd1⟩⟩
set_option maxRecDepth 100000 in
theorem open_uses {r : Reach} {b0 : Nat} {v : Value} {d : DataW H} {p : List MemPlace} (hv : Value.okWide Tryz.prog w r b0 44 v) (h : DataW.Trod enc Tryz.prog w base spare held 44 v d p) :
    ∃ u ia ic la lc, v = .agg #[.slice ia u.imps.length ic, .slice la u.lines.length lc] ∧ UsO w w.heap.size u ia ic la lc := by
  obtain ⟨cs, rfl, hsz⟩ := okWide_struct Tryz.underlying44 hv
  obtain ⟨fuel, hf⟩ := h
  obtain ⟨u, ia, ic, la, lc, hc, hm⟩ := us_trod hf
  refine ⟨u, ia, ic, la, lc, ?_, hm⟩
  have e : (Value.agg cs).cells.toList = cs.toList := by simp [Value.cells]
  rw [e] at hc
  have : cs = #[.slice ia u.imps.length ic, .slice la u.lines.length lc] := by
    cases cs
    simp at hc ⊢
    rw [hc]
  rw [this]
end
end Go.Proofs.YtjeldfipipkfiaaGreat
