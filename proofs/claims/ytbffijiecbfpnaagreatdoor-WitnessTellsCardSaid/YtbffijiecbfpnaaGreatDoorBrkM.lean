/- The contract of witness.Breaks; memory: two rows of interfaces that are few. -/
import Derived.Test.YtbffijiecbfpnaaGreatDoorNamesF
import Derived.Test.YtbffijiecbfpnaaGreatDoorRowsC
import Derived.Test.YtbffijiecbfpnaaGreatDoorRefSubC
import Derived.Test.YtbffijiecbfpnaaGreatDoorIfN
import Derived.Test.YtbffijiecbfpnaaGreatDoorUnionP
import Derived.Test.YtbffijiecbfpnaaGreatDoorRefOwn
import Derived.Laws.AppendOwnNone
import Derived.Test.YtbffijiecbfpnaaGreatDoorChgV
import Derived.Deep.DeepCutAuto
import Derived.Deep.Cut
import Derived.Test.YtbffijiecbfpnaaGreatDoorCopied
namespace Go.Proofs.YtbffijiecbfpnaaGreatDoor
open Go.RowKit
set_option linter.unusedSimpArgs false
set_option linter.unusedVariables false
/-- the place of a name; below 0: it is not there -/
def ofN (l : List Nm) (s : ByteArray) : Int := match l.findIdx? fun x => x.name.toList == s.toList with
  | some i => (i : Nat)
  | none => -1
theorem ofN_hit {l : List Nm} {s : ByteArray} {k : Nat} (hk : k < l.length) (h : ∀ i (h : i < l.length), i < k → (l[i].name.toList == s.toList) = false) (h2 : (l[k].name.toList == s.toList) = true) : ofN l s = (k : Nat) := by
  have : l.findIdx? (fun x => x.name.toList == s.toList) = some k := by
    rw [List.findIdx?_eq_some_iff_getElem]
    exact ⟨hk, h2, fun j hj => by simp [h j (by omega) hj]⟩
  rw [ofN, this]
theorem ofN_miss {l : List Nm} {s : ByteArray} (h : ∀ i (h : i < l.length), (l[i].name.toList == s.toList) = false) : ofN l s = -1 := by
  have : l.findIdx? (fun x => x.name.toList == s.toList) = none := by
    rw [List.findIdx?_eq_none_iff]
    intro x hx
    obtain ⟨i, hi, rfl⟩ := List.getElem_of_mem hx
    exact h i hi
  rw [ofN, this]
set_option maxHeartbeats 4000000 in
theorem refOfN_c (A : Option Addr) (c B : Nat) (l : List Nm) (s : ByteArray) (w : World) (h1 : NmsAt w B A l) (hB : B ≤ w.heap.size) (hl : l.length ≤ 1000) :
    Calls Tryz.prog 20 #[.slice A l.length c, .string s] w fun e w' => e = .returned (.int .i64 (ofN l s)) ∧ w' = w := by
  obtain ⟨q, hq⟩ : ∃ q, ofN l s = q := ⟨_, rfl⟩
  rw [hq]
  have HQ := Lib.hid hq
  have H1 := Lib.hid h1
  clear h1 hq
  go_enter Tryz.func20, Tryz.ntmps20
  go_wp2_with fail
  go_loop [5] (fun i => ∃ k : Nat, i = .int .i64 k ∧ k ≤ l.length ∧ ∀ i (h : i < l.length), i < k → (l[i].name.toList == s.toList) = false) (fun i => l.length - (intOf i).toNat)
  case atStart => exact ⟨0, rfl, Nat.zero_le _, fun i _ hi => absurd hi (by omega)⟩
  case round =>
    obtain ⟨k, rfl, hk, hall⟩ := hrel
    have HA := Lib.hid hall
    clear hall
    by_cases hlt : k < l.length
    · have hltI : (k : Int) < (l.length : Int) := by omega
      obtain ⟨x, hx⟩ : ∃ x, l[k] = x := ⟨_, rfl⟩
      obtain ⟨hns, b, o, na, nc, sa, sc, rfl, hbB, hty, c0, -⟩ := H1.out.elem hlt hx
      have hbw : b < w.heap.size := by omega
      have HX := Lib.hid hx
      obtain ⟨t, ht⟩ : ∃ t, (x.name.toList == s.toList) = t := ⟨_, rfl⟩
      have HT := Lib.hid ht
      clear hx
      cases t
      · go_wp2_with fail
        exact ⟨⟨k + 1, by go_num, by omega, fun i hi hik => by
          by_cases e : i = k
          · subst e; rw [HX.out]; exact HT.out
          · exact HA.out i hi (by omega)⟩, by simp [intOf]; omega⟩
      · have hr := HQ.out.symm.trans (ofN_hit hlt HA.out (by rw [HX.out]; exact HT.out))
        subst hr
        go_wp2_with fail
        go_ret
        exact ⟨rfl, rfl⟩
    · obtain rfl : k = l.length := by omega
      have hltI : ¬ (l.length : Int) < (l.length : Int) := by omega
      have hr := HQ.out.symm.trans (ofN_miss fun i hi => HA.out i hi hi)
      subst hr
      go_wp2_with fail
      go_ret
      exact ⟨rfl, rfl⟩
/-- the types, or the values, of a module -/
def selF (x : If) (o : Bool) : List Nm := if o = true then x.types else x.vals
set_option maxHeartbeats 4000000 in
theorem refRow_c (A : Option Addr) (c B : Nat) (l : List If) (s : ByteArray) (o : Bool) (w : World) (h1 : IfsAt w B A l) (hB : B ≤ w.heap.size) (hl : l.length ≤ 1000) :
    Calls Tryz.prog 38 #[.slice A l.length c, .string s, .bool o] w fun e w' => ∃ A2 c2, e = .returned (.slice A2 (selF ((firstIface l s).getD zIf) o).length c2) ∧ NmsAt w B A2 (selF ((firstIface l s).getD zIf) o) ∧ w' = w := by
  obtain ⟨f, hf⟩ : ∃ f, firstIface l s = f := ⟨_, rfl⟩
  simp only [hf]
  have HF := Lib.hid hf
  have H1 := Lib.hid h1
  clear h1 hf
  go_enter Tryz.func38, Tryz.ntmps38
  go_wp2_with fail
  go_loop [7] (fun i => ∃ k : Nat, i = .int .i64 k ∧ k ≤ l.length ∧ ∀ i (h : i < l.length), i < k → (l[i].mod.toList == s.toList) = false) (fun i => l.length - (intOf i).toNat)
  case atStart => exact ⟨0, rfl, Nat.zero_le _, fun i _ hi => absurd hi (by omega)⟩
  case round =>
    obtain ⟨k, rfl, hk, hall⟩ := hrel
    have HA := Lib.hid hall
    clear hall
    by_cases hlt : k < l.length
    · have hltI : (k : Int) < (l.length : Int) := by omega
      obtain ⟨x, hx⟩ : ∃ x, l[k] = x := ⟨_, rfl⟩
      obtain ⟨fx, b, p, ta, tc, va, vc, rfl, hbB, hT, hV, htc, hvc, c0, c1, c2, c3, c4⟩ := H1.out.elem hlt hx
      have hbw : b < w.heap.size := by omega
      have HX := Lib.hid hx
      have HTT := Lib.hid hT
      have HVV := Lib.hid hV
      obtain ⟨t, ht⟩ : ∃ t, (x.mod.toList == s.toList) = t := ⟨_, rfl⟩
      have HT := Lib.hid ht
      clear hx hT hV c0 c1 fx
      cases t
      · cases o
        all_goals
          go_wp2_with fail
          exact ⟨⟨k + 1, by go_num, by omega, fun i hi hik => by
            by_cases e : i = k
            · subst e; rw [HX.out]; exact HT.out
            · exact HA.out i hi (by omega)⟩, by simp [intOf]; omega⟩
      · have hr := HF.out.symm.trans (find_first hlt (fun i hi => HA.out i (by omega) hi) (by rw [HX.out]; exact HT.out))
        subst hr
        cases o
        · go_wp2_with fail
          go_ret
          refine ⟨va, ⟨vc, ?_⟩, ?_, rfl⟩
          · rw [HX.out]; rfl
          · rw [HX.out]; exact HVV.out
        · go_wp2_with fail
          go_ret
          refine ⟨ta, ⟨tc, ?_⟩, ?_, rfl⟩
          · rw [HX.out]; rfl
          · rw [HX.out]; exact HTT.out
    · obtain rfl : k = l.length := by omega
      have hltI : ¬ (l.length : Int) < (l.length : Int) := by omega
      have hr := HF.out.symm.trans (find_none' fun i hi => HA.out i hi hi)
      subst hr
      go_wp2_with fail
      go_ret
      have e : selF zIf o = [] := by cases o <;> rfl
      refine ⟨none, ⟨0, ?_⟩, ?_, rfl⟩
      · simp [e]
      · simp only [Option.getD_none, e]; exact NmsAt.nil _ _ _
end Go.Proofs.YtbffijiecbfpnaaGreatDoor
namespace Go.Proofs.YtbffijiecbfpnaaGreatDoor
open Go.RowKit
set_option linter.unusedSimpArgs false
set_option linter.unusedVariables false
theorem ofN_none {l : List Nm} {s : ByteArray} (h : firstNamed l s = none) : ofN l s = -1 := by
  refine ofN_miss fun i hi => ?_
  have := List.find?_eq_none.1 h l[i] (List.getElem_mem hi)
  simpa using this
theorem ofN_some {l : List Nm} {s : ByteArray} {x : Nm} (h : firstNamed l s = some x) : ∃ k : Nat, ∃ hk : k < l.length, l[k] = x ∧ ofN l s = (k : Nat) := by
  obtain ⟨hx, i, hi, he, hall⟩ := List.find?_eq_some_iff_getElem.1 h
  refine ⟨i, hi, he, ofN_hit hi (fun j hj hji => ?_) (by rw [he]; exact hx)⟩
  have := hall j hji
  simpa using this
theorem turnF_plain {a b : Ty} {o : Bool} (ha : PlainB a = true) (hb : PlainB b = true) : turnF a b o = if alikeT a b = true then 0 else if o = true ∨ subF 32 b a = false then 2 else 3 := by
  have e1 : sameB a b = alikeT a b := by rw [sameB, plain_may ha, plain_may hb, Bool.true_and, Bool.true_and]
  have e2 : SubB b a = subF 32 b a := by rw [SubB, ha, hb]; simp
  rw [turnF, e1, e2]
set_option maxRecDepth 100000 in
set_option maxHeartbeats 40000000 in
theorem one_c (A A' : Option Addr) (c c' B : Nat) (a b : List Nm) (s : ByteArray) (o : Bool) (w : World) (h1 : NmsAt w B A a) (h2 : NmsAt w B A' b) (hB : B ≤ w.heap.size) (hl : a.length ≤ 1000) (hl' : b.length ≤ 1000)
    (pa : ∀ x ∈ a, PlainB x.ty = true) (pb : ∀ x ∈ b, PlainB x.ty = true) :
    Calls Tryz.prog 39 #[.slice A a.length c, .slice A' b.length c', .string s, .bool o] w fun e w' => e = .returned (.int .i64 (kindF a b s o)) ∧ Below w.heap.size w w' := by
  have HOA := Lib.hid (refOfN_c A c B a s w h1 hB hl)
  have HOB := Lib.hid (refOfN_c A' c' B b s w h2 hB hl')
  obtain ⟨R, hR⟩ : ∃ R, kindF a b s o = R := ⟨_, rfl⟩
  rw [hR]
  cases fa : firstNamed a s with
  | none =>
    rw [ofN_none fa] at HOA
    obtain ⟨q, hq⟩ : ∃ q, ofN b s = q := ⟨_, rfl⟩
    rw [hq] at HOB
    obtain rfl : R = 4 := by rw [← hR, kindF, fa]; rfl
    clear h1 h2 hR fa hq pa pb hl hl'
    go_enter Tryz.func39, Tryz.ntmps39
    go_upto_region 2 with (go_at_call 20; refine HOA.out.mono ?_; rintro e wz ⟨rfl, hwz⟩; obtain rfl := hwz)
    go_upto_region 3 with (go_at_call 20; refine HOB.out.mono ?_; rintro e wz ⟨rfl, hwz⟩; obtain rfl := hwz)
    go_wp2_with fail
    go_ret
    exact ⟨rfl, Below.refl _ _⟩
  | some x =>
    obtain ⟨i, hi, hx, ei⟩ := ofN_some fa
    rw [ei] at HOA
    cases fb : firstNamed b s with
    | none =>
      rw [ofN_none fb] at HOB
      obtain rfl : R = 1 := by rw [← hR, kindF, fa, fb]; rfl
      have hiI : ¬ ((i : Nat) : Int) < 0 := by omega
      clear h1 h2 hR fa fb hx ei pa pb hi hl hl'
      go_enter Tryz.func39, Tryz.ntmps39
      go_upto_region 2 with (go_at_call 20; refine HOA.out.mono ?_; rintro e wz ⟨rfl, hwz⟩; obtain rfl := hwz)
      go_upto_region 3 with (go_at_call 20; refine HOB.out.mono ?_; rintro e wz ⟨rfl, hwz⟩; obtain rfl := hwz)
      go_wp2_with fail
      go_ret
      exact ⟨rfl, Below.refl _ _⟩
    | some y =>
      obtain ⟨k, hk, hy, ek⟩ := ofN_some fb
      rw [ek] at HOB
      have px : PlainB x.ty = true := pa x (by rw [← hx]; exact List.getElem_mem hi)
      have py : PlainB y.ty = true := pb y (by rw [← hy]; exact List.getElem_mem hk)
      have hr : (if alikeT x.ty y.ty = true then (0 : Int) else if o = true ∨ subF 32 y.ty x.ty = false then 2 else 3) = R := by rw [← turnF_plain px py, ← hR, kindF, fa, fb]; rfl
      obtain ⟨-, bx, ox, na, nc, sa, sc, rfl, hbxB, tx, -, x1, x2, x3, x4, x5, x6, x7⟩ := h1.elem hi hx
      obtain ⟨-, by_, oy, na', nc', sa', sc', rfl, hbyB, ty, -, y1, y2, y3, y4, y5, y6, y7⟩ := h2.elem hk hy
      have hbx : bx < w.heap.size := by omega
      have hby : by_ < w.heap.size := by omega
      have HSM := fun w ha hb hB => rSame_c x.ty y.ty (tyCells x.ty na nc sa sc) (tyCells y.ty na' nc' sa' sc') B w ha hb hB
      obtain ⟨al, hal⟩ : ∃ v, alikeT x.ty y.ty = v := ⟨_, rfl⟩
      obtain ⟨sb, hsb⟩ : ∃ v, subF 32 y.ty x.ty = v := ⟨_, rfl⟩
      have HSB := fun w hb ha hB => hsb ▸ refSub_c 32 y.ty x.ty (tyCells y.ty na' nc' sa' sc') (tyCells x.ty na nc sa sc) B w hb ha hB (plain_may py) (plain_may px) (may_deep (plain_may py)) (may_deep (plain_may px))
      rw [hal, hsb] at hr
      simp only [hal, tyCells] at HSM
      simp only [tyCells] at HSB
      have HS := Lib.hid HSM
      have HU := Lib.hid HSB
      have TX := Lib.hid tx
      have TY := Lib.hid ty
      simp only [tyCells] at TX TY
      have HRR := Lib.hid hr
      have HB := Lib.hid hB
      have hiI : ((i : Nat) : Int) < (a.length : Int) := by omega
      have hkI : ((k : Nat) : Int) < (b.length : Int) := by omega
      have hiN : ¬ ((i : Nat) : Int) < 0 := by omega
      have hkN : ¬ ((k : Nat) : Int) < 0 := by omega
      have hi0 : 0 ≤ ((i : Nat) : Int) := by omega
      have hk0 : 0 ≤ ((k : Nat) : Int) := by omega
      have A0 := Lib.hid (Below.refl w.heap.size w)
      clear h1 h2 hR fa fb ei ek pa pb px py hal hsb HSM HSB tx ty hr hx hy
      go_enter Tryz.func39, Tryz.ntmps39
      go_upto_region 2 with (go_at_call 20; refine HOA.out.mono ?_; rintro e wz ⟨rfl, hwz⟩; obtain rfl := hwz)
      go_upto_region 3 with (go_at_call 20; refine HOB.out.mono ?_; rintro e wz ⟨rfl, hwz⟩; obtain rfl := hwz)
      clear HOA HOB
      go_upto_region 7 with fail
      refine wp_region_until [(10, fun w' => w'.cell? ⟨bx, ox + i * 8 + 1, none⟩ = some (.int .i64 x.ty.kind) ∧ w'.cell? ⟨bx, ox + i * 8 + 2, none⟩ = some (.string x.ty.pkg) ∧ w'.cell? ⟨bx, ox + i * 8 + 3, none⟩ = some (.int .i64 x.ty.major) ∧ w'.cell? ⟨bx, ox + i * 8 + 4, none⟩ = some (.string x.ty.mod) ∧ w'.cell? ⟨bx, ox + i * 8 + 5, none⟩ = some (.string x.ty.name) ∧ w'.cell? ⟨bx, ox + i * 8 + 6, none⟩ = some (.slice na x.ty.names.length nc) ∧ w'.cell? ⟨bx, ox + i * 8 + 7, none⟩ = some (.slice sa x.ty.subs.length sc)), (10, fun w' => w'.cell? ⟨by_, oy + k * 8 + 1, none⟩ = some (.int .i64 y.ty.kind) ∧ w'.cell? ⟨by_, oy + k * 8 + 2, none⟩ = some (.string y.ty.pkg) ∧ w'.cell? ⟨by_, oy + k * 8 + 3, none⟩ = some (.int .i64 y.ty.major) ∧ w'.cell? ⟨by_, oy + k * 8 + 4, none⟩ = some (.string y.ty.mod) ∧ w'.cell? ⟨by_, oy + k * 8 + 5, none⟩ = some (.string y.ty.name) ∧ w'.cell? ⟨by_, oy + k * 8 + 6, none⟩ = some (.slice na' y.ty.names.length nc') ∧ w'.cell? ⟨by_, oy + k * 8 + 7, none⟩ = some (.slice sa' y.ty.subs.length sc'))] (by kernel_rfl) (Until.cons (fun _ => ⟨x1, x2, x3, x4, x5, x6, x7⟩) (Until.cons (fun _ => ⟨y1, y2, y3, y4, y5, y6, y7⟩) Until.nil)) (fun hU => ?_)
      refine AnyU.take (i := 0) (v := ?_) rfl (by kernel_rfl) (by kernel_rfl) (by kernel_rfl) (fun _ _ _ h => h) (by kernel_rfl) (by assumption) (by rfl) ?_ (fun hV => ?_)
      rotate_left 1
      · (intro wq; go_simp; try with_reducible rfl)
      clear hU
      have hU := hV
      clear hV
      try simp only [Act.put, List.getElem_toArray, List.getElem_cons_zero, List.getElem_cons_succ, List.setIfInBounds_toArray, List.set_cons_zero, List.set_cons_succ]
      refine AnyU.take (i := 1) (v := ?_) rfl (by kernel_rfl) (by kernel_rfl) (by kernel_rfl) (fun _ _ _ h => h) (by kernel_rfl) (by assumption) (by rfl) ?_ (fun hV => ?_)
      rotate_left 1
      · (intro wq; go_simp; try with_reducible rfl)
      clear hU
      have hU := hV
      clear hV
      try simp only [Act.put, List.getElem_toArray, List.getElem_cons_zero, List.getElem_cons_succ, List.setIfInBounds_toArray, List.set_cons_zero, List.set_cons_succ]
      refine AnyU.take (i := 2) (v := ?_) rfl (by kernel_rfl) (by kernel_rfl) (by kernel_rfl) (fun _ _ _ h => h) (by kernel_rfl) (by assumption) (by rfl) ?_ (fun hV => ?_)
      rotate_left 1
      · (intro wq; go_simp; try with_reducible rfl)
      clear hU
      have hU := hV
      clear hV
      try simp only [Act.put, List.getElem_toArray, List.getElem_cons_zero, List.getElem_cons_succ, List.setIfInBounds_toArray, List.set_cons_zero, List.set_cons_succ]
      refine AnyU.take (i := 3) (v := ?_) rfl (by kernel_rfl) (by kernel_rfl) (by kernel_rfl) (fun _ _ _ h => h) (by kernel_rfl) (by assumption) (by rfl) ?_ (fun hV => ?_)
      rotate_left 1
      · (intro wq; go_simp; try with_reducible rfl)
      clear hU
      have hU := hV
      clear hV
      try simp only [Act.put, List.getElem_toArray, List.getElem_cons_zero, List.getElem_cons_succ, List.setIfInBounds_toArray, List.set_cons_zero, List.set_cons_succ]
      refine AnyU.loadc (i := 4) (d := 10) [10] (Si := fun w' => w'.cell? ⟨bx, ox + i * 8 + 1, none⟩ = some (.int .i64 x.ty.kind) ∧ w'.cell? ⟨bx, ox + i * 8 + 2, none⟩ = some (.string x.ty.pkg) ∧ w'.cell? ⟨bx, ox + i * 8 + 3, none⟩ = some (.int .i64 x.ty.major) ∧ w'.cell? ⟨bx, ox + i * 8 + 4, none⟩ = some (.string x.ty.mod) ∧ w'.cell? ⟨bx, ox + i * 8 + 5, none⟩ = some (.string x.ty.name) ∧ w'.cell? ⟨bx, ox + i * 8 + 6, none⟩ = some (.slice na x.ty.names.length nc) ∧ w'.cell? ⟨bx, ox + i * 8 + 7, none⟩ = some (.slice sa x.ty.subs.length sc)) (v := ?_) rfl (by kernel_rfl) (by kernel_rfl) (by kernel_rfl) (fun _ _ _ h => h) (by kernel_rfl) (by assumption) (by kernel_rfl) rfl (by simp) (by rfl) ?_ (fun hV => ?_)
      rotate_left 1
      · (intro wq hq; obtain ⟨u1, u2, u3, u4, u5, u6, u7⟩ := hq; go_simp; try with_reducible rfl)
      clear hU
      have hU := hV
      clear hV
      try simp only [Act.put, List.getElem_toArray, List.getElem_cons_zero, List.getElem_cons_succ, List.setIfInBounds_toArray, List.set_cons_zero, List.set_cons_succ]
      refine AnyU.take (i := 5) (v := ?_) rfl (by kernel_rfl) (by kernel_rfl) (by kernel_rfl) (fun _ _ _ h => h) (by kernel_rfl) (by assumption) (by rfl) ?_ (fun hV => ?_)
      rotate_left 1
      · (intro wq; go_simp; try with_reducible rfl)
      clear hU
      have hU := hV
      clear hV
      try simp only [Act.put, List.getElem_toArray, List.getElem_cons_zero, List.getElem_cons_succ, List.setIfInBounds_toArray, List.set_cons_zero, List.set_cons_succ]
      refine AnyU.take (i := 6) (v := ?_) rfl (by kernel_rfl) (by kernel_rfl) (by kernel_rfl) (fun _ _ _ h => h) (by kernel_rfl) (by assumption) (by rfl) ?_ (fun hV => ?_)
      rotate_left 1
      · (intro wq; go_simp; try with_reducible rfl)
      clear hU
      have hU := hV
      clear hV
      try simp only [Act.put, List.getElem_toArray, List.getElem_cons_zero, List.getElem_cons_succ, List.setIfInBounds_toArray, List.set_cons_zero, List.set_cons_succ]
      refine AnyU.take (i := 7) (v := ?_) rfl (by kernel_rfl) (by kernel_rfl) (by kernel_rfl) (fun _ _ _ h => h) (by kernel_rfl) (by assumption) (by rfl) ?_ (fun hV => ?_)
      rotate_left 1
      · (intro wq; go_simp; try with_reducible rfl)
      clear hU
      have hU := hV
      clear hV
      try simp only [Act.put, List.getElem_toArray, List.getElem_cons_zero, List.getElem_cons_succ, List.setIfInBounds_toArray, List.set_cons_zero, List.set_cons_succ]
      refine AnyU.take (i := 8) (v := ?_) rfl (by kernel_rfl) (by kernel_rfl) (by kernel_rfl) (fun _ _ _ h => h) (by kernel_rfl) (by assumption) (by rfl) ?_ (fun hV => ?_)
      rotate_left 1
      · (intro wq; go_simp; try with_reducible rfl)
      clear hU
      have hU := hV
      clear hV
      try simp only [Act.put, List.getElem_toArray, List.getElem_cons_zero, List.getElem_cons_succ, List.setIfInBounds_toArray, List.set_cons_zero, List.set_cons_succ]
      refine AnyU.loadc (i := 9) (d := 10) [10] (Si := fun w' => w'.cell? ⟨by_, oy + k * 8 + 1, none⟩ = some (.int .i64 y.ty.kind) ∧ w'.cell? ⟨by_, oy + k * 8 + 2, none⟩ = some (.string y.ty.pkg) ∧ w'.cell? ⟨by_, oy + k * 8 + 3, none⟩ = some (.int .i64 y.ty.major) ∧ w'.cell? ⟨by_, oy + k * 8 + 4, none⟩ = some (.string y.ty.mod) ∧ w'.cell? ⟨by_, oy + k * 8 + 5, none⟩ = some (.string y.ty.name) ∧ w'.cell? ⟨by_, oy + k * 8 + 6, none⟩ = some (.slice na' y.ty.names.length nc') ∧ w'.cell? ⟨by_, oy + k * 8 + 7, none⟩ = some (.slice sa' y.ty.subs.length sc')) (v := ?_) rfl (by kernel_rfl) (by kernel_rfl) (by kernel_rfl) (fun _ _ _ h => h) (by kernel_rfl) (by assumption) (by kernel_rfl) rfl (by simp) (by rfl) ?_ (fun hV => ?_)
      rotate_left 1
      · (intro wq hq; obtain ⟨u1, u2, u3, u4, u5, u6, u7⟩ := hq; go_simp; try with_reducible rfl)
      clear hU
      have hU := hV
      clear hV
      try simp only [Act.put, List.getElem_toArray, List.getElem_cons_zero, List.getElem_cons_succ, List.setIfInBounds_toArray, List.set_cons_zero, List.set_cons_succ]
      refine AnyU.ready1 (i := 10) (by kernel_rfl) (AnyU.one rfl fun K hK => ?_)
      go_simp
      go_at_call 18
      refine (HS.out (World.drew _) (TX.out.keep fun _ _ => rfl) (TY.out.keep fun _ _ => rfl) HB.out).mono ?_
      rintro e yw1 ⟨rfl, hb⟩
      have A1 := Lib.hid (A0.out.drew.trans (hb.mono A0.out.drew.size))
      clear hb
      refine hK.out _ _ (Until.cons (fun h => absurd h (by decide)) (Until.cons (fun h => absurd h (by decide)) Until.nil)) (fun hV => ?_)
      clear hK K
      clear hU
      have hU := hV
      clear hV
      try simp only [Act.put, List.getElem_toArray, List.getElem_cons_zero, List.getElem_cons_succ, List.setIfInBounds_toArray, List.set_cons_zero, List.set_cons_succ]
      refine AnyU.ready1 (i := 11) (by kernel_rfl) (AnyU.one rfl fun K hK => ?_)
      go_simp
      refine hK.out _ _ (Until.off (by kernel_rfl)) (fun hV => ?_)
      clear hK K
      clear hU
      have hU := hV
      clear hV
      try simp only [Act.put, List.getElem_toArray, List.getElem_cons_zero, List.getElem_cons_succ, List.setIfInBounds_toArray, List.set_cons_zero, List.set_cons_succ]
      refine AnyU.done (by kernel_rfl) ?_
      cases al
      rotate_left
      · obtain rfl : R = 0 := by rw [← HRR.out]; rfl
        go_wp2_with fail
        go_ret
        exact ⟨rfl, A1.out⟩
      go_upto_region 10 with fail
      refine wp_region_until [(10, fun w' => w'.cell? ⟨by_, oy + k * 8 + 1, none⟩ = some (.int .i64 y.ty.kind) ∧ w'.cell? ⟨by_, oy + k * 8 + 2, none⟩ = some (.string y.ty.pkg) ∧ w'.cell? ⟨by_, oy + k * 8 + 3, none⟩ = some (.int .i64 y.ty.major) ∧ w'.cell? ⟨by_, oy + k * 8 + 4, none⟩ = some (.string y.ty.mod) ∧ w'.cell? ⟨by_, oy + k * 8 + 5, none⟩ = some (.string y.ty.name) ∧ w'.cell? ⟨by_, oy + k * 8 + 6, none⟩ = some (.slice na' y.ty.names.length nc') ∧ w'.cell? ⟨by_, oy + k * 8 + 7, none⟩ = some (.slice sa' y.ty.subs.length sc')), (10, fun w' => w'.cell? ⟨bx, ox + i * 8 + 1, none⟩ = some (.int .i64 x.ty.kind) ∧ w'.cell? ⟨bx, ox + i * 8 + 2, none⟩ = some (.string x.ty.pkg) ∧ w'.cell? ⟨bx, ox + i * 8 + 3, none⟩ = some (.int .i64 x.ty.major) ∧ w'.cell? ⟨bx, ox + i * 8 + 4, none⟩ = some (.string x.ty.mod) ∧ w'.cell? ⟨bx, ox + i * 8 + 5, none⟩ = some (.string x.ty.name) ∧ w'.cell? ⟨bx, ox + i * 8 + 6, none⟩ = some (.slice na x.ty.names.length nc) ∧ w'.cell? ⟨bx, ox + i * 8 + 7, none⟩ = some (.slice sa x.ty.subs.length sc))] (by kernel_rfl) (Until.cons (fun _ => ⟨(A1.out.cell (p := ⟨by_, _, none⟩) hby).trans y1, (A1.out.cell (p := ⟨by_, _, none⟩) hby).trans y2, (A1.out.cell (p := ⟨by_, _, none⟩) hby).trans y3, (A1.out.cell (p := ⟨by_, _, none⟩) hby).trans y4, (A1.out.cell (p := ⟨by_, _, none⟩) hby).trans y5, (A1.out.cell (p := ⟨by_, _, none⟩) hby).trans y6, (A1.out.cell (p := ⟨by_, _, none⟩) hby).trans y7⟩) (Until.cons (fun _ => ⟨(A1.out.cell (p := ⟨bx, _, none⟩) hbx).trans x1, (A1.out.cell (p := ⟨bx, _, none⟩) hbx).trans x2, (A1.out.cell (p := ⟨bx, _, none⟩) hbx).trans x3, (A1.out.cell (p := ⟨bx, _, none⟩) hbx).trans x4, (A1.out.cell (p := ⟨bx, _, none⟩) hbx).trans x5, (A1.out.cell (p := ⟨bx, _, none⟩) hbx).trans x6, (A1.out.cell (p := ⟨bx, _, none⟩) hbx).trans x7⟩) Until.nil)) (fun hU => ?_)
      refine AnyU.take (i := 0) (v := ?_) rfl (by kernel_rfl) (by kernel_rfl) (by kernel_rfl) (fun _ _ _ h => h) (by kernel_rfl) (by assumption) (by rfl) ?_ (fun hV => ?_)
      rotate_left 1
      · (intro wq; go_simp; try with_reducible rfl)
      clear hU
      have hU := hV
      clear hV
      try simp only [Act.put, List.getElem_toArray, List.getElem_cons_zero, List.getElem_cons_succ, List.setIfInBounds_toArray, List.set_cons_zero, List.set_cons_succ]
      refine AnyU.take (i := 1) (v := ?_) rfl (by kernel_rfl) (by kernel_rfl) (by kernel_rfl) (fun _ _ _ h => h) (by kernel_rfl) (by assumption) (by rfl) ?_ (fun hV => ?_)
      rotate_left 1
      · (intro wq; go_simp; try with_reducible rfl)
      clear hU
      have hU := hV
      clear hV
      try simp only [Act.put, List.getElem_toArray, List.getElem_cons_zero, List.getElem_cons_succ, List.setIfInBounds_toArray, List.set_cons_zero, List.set_cons_succ]
      refine AnyU.take (i := 2) (v := ?_) rfl (by kernel_rfl) (by kernel_rfl) (by kernel_rfl) (fun _ _ _ h => h) (by kernel_rfl) (by assumption) (by rfl) ?_ (fun hV => ?_)
      rotate_left 1
      · (intro wq; go_simp; try with_reducible rfl)
      clear hU
      have hU := hV
      clear hV
      try simp only [Act.put, List.getElem_toArray, List.getElem_cons_zero, List.getElem_cons_succ, List.setIfInBounds_toArray, List.set_cons_zero, List.set_cons_succ]
      refine AnyU.take (i := 3) (v := ?_) rfl (by kernel_rfl) (by kernel_rfl) (by kernel_rfl) (fun _ _ _ h => h) (by kernel_rfl) (by assumption) (by rfl) ?_ (fun hV => ?_)
      rotate_left 1
      · (intro wq; go_simp; try with_reducible rfl)
      clear hU
      have hU := hV
      clear hV
      try simp only [Act.put, List.getElem_toArray, List.getElem_cons_zero, List.getElem_cons_succ, List.setIfInBounds_toArray, List.set_cons_zero, List.set_cons_succ]
      refine AnyU.loadc (i := 4) (d := 10) [10] (Si := fun w' => w'.cell? ⟨by_, oy + k * 8 + 1, none⟩ = some (.int .i64 y.ty.kind) ∧ w'.cell? ⟨by_, oy + k * 8 + 2, none⟩ = some (.string y.ty.pkg) ∧ w'.cell? ⟨by_, oy + k * 8 + 3, none⟩ = some (.int .i64 y.ty.major) ∧ w'.cell? ⟨by_, oy + k * 8 + 4, none⟩ = some (.string y.ty.mod) ∧ w'.cell? ⟨by_, oy + k * 8 + 5, none⟩ = some (.string y.ty.name) ∧ w'.cell? ⟨by_, oy + k * 8 + 6, none⟩ = some (.slice na' y.ty.names.length nc') ∧ w'.cell? ⟨by_, oy + k * 8 + 7, none⟩ = some (.slice sa' y.ty.subs.length sc')) (v := ?_) rfl (by kernel_rfl) (by kernel_rfl) (by kernel_rfl) (fun _ _ _ h => h) (by kernel_rfl) (by assumption) (by kernel_rfl) rfl (by simp) (by rfl) ?_ (fun hV => ?_)
      rotate_left 1
      · (intro wq hq; obtain ⟨u1, u2, u3, u4, u5, u6, u7⟩ := hq; go_simp; try with_reducible rfl)
      clear hU
      have hU := hV
      clear hV
      try simp only [Act.put, List.getElem_toArray, List.getElem_cons_zero, List.getElem_cons_succ, List.setIfInBounds_toArray, List.set_cons_zero, List.set_cons_succ]
      refine AnyU.take (i := 5) (v := ?_) rfl (by kernel_rfl) (by kernel_rfl) (by kernel_rfl) (fun _ _ _ h => h) (by kernel_rfl) (by assumption) (by rfl) ?_ (fun hV => ?_)
      rotate_left 1
      · (intro wq; go_simp; try with_reducible rfl)
      clear hU
      have hU := hV
      clear hV
      try simp only [Act.put, List.getElem_toArray, List.getElem_cons_zero, List.getElem_cons_succ, List.setIfInBounds_toArray, List.set_cons_zero, List.set_cons_succ]
      refine AnyU.take (i := 6) (v := ?_) rfl (by kernel_rfl) (by kernel_rfl) (by kernel_rfl) (fun _ _ _ h => h) (by kernel_rfl) (by assumption) (by rfl) ?_ (fun hV => ?_)
      rotate_left 1
      · (intro wq; go_simp; try with_reducible rfl)
      clear hU
      have hU := hV
      clear hV
      try simp only [Act.put, List.getElem_toArray, List.getElem_cons_zero, List.getElem_cons_succ, List.setIfInBounds_toArray, List.set_cons_zero, List.set_cons_succ]
      refine AnyU.take (i := 7) (v := ?_) rfl (by kernel_rfl) (by kernel_rfl) (by kernel_rfl) (fun _ _ _ h => h) (by kernel_rfl) (by assumption) (by rfl) ?_ (fun hV => ?_)
      rotate_left 1
      · (intro wq; go_simp; try with_reducible rfl)
      clear hU
      have hU := hV
      clear hV
      try simp only [Act.put, List.getElem_toArray, List.getElem_cons_zero, List.getElem_cons_succ, List.setIfInBounds_toArray, List.set_cons_zero, List.set_cons_succ]
      refine AnyU.take (i := 8) (v := ?_) rfl (by kernel_rfl) (by kernel_rfl) (by kernel_rfl) (fun _ _ _ h => h) (by kernel_rfl) (by assumption) (by rfl) ?_ (fun hV => ?_)
      rotate_left 1
      · (intro wq; go_simp; try with_reducible rfl)
      clear hU
      have hU := hV
      clear hV
      try simp only [Act.put, List.getElem_toArray, List.getElem_cons_zero, List.getElem_cons_succ, List.setIfInBounds_toArray, List.set_cons_zero, List.set_cons_succ]
      refine AnyU.loadc (i := 9) (d := 10) [10] (Si := fun w' => w'.cell? ⟨bx, ox + i * 8 + 1, none⟩ = some (.int .i64 x.ty.kind) ∧ w'.cell? ⟨bx, ox + i * 8 + 2, none⟩ = some (.string x.ty.pkg) ∧ w'.cell? ⟨bx, ox + i * 8 + 3, none⟩ = some (.int .i64 x.ty.major) ∧ w'.cell? ⟨bx, ox + i * 8 + 4, none⟩ = some (.string x.ty.mod) ∧ w'.cell? ⟨bx, ox + i * 8 + 5, none⟩ = some (.string x.ty.name) ∧ w'.cell? ⟨bx, ox + i * 8 + 6, none⟩ = some (.slice na x.ty.names.length nc) ∧ w'.cell? ⟨bx, ox + i * 8 + 7, none⟩ = some (.slice sa x.ty.subs.length sc)) (v := ?_) rfl (by kernel_rfl) (by kernel_rfl) (by kernel_rfl) (fun _ _ _ h => h) (by kernel_rfl) (by assumption) (by kernel_rfl) rfl (by simp) (by rfl) ?_ (fun hV => ?_)
      rotate_left 1
      · (intro wq hq; obtain ⟨u1, u2, u3, u4, u5, u6, u7⟩ := hq; go_simp; try with_reducible rfl)
      clear hU
      have hU := hV
      clear hV
      try simp only [Act.put, List.getElem_toArray, List.getElem_cons_zero, List.getElem_cons_succ, List.setIfInBounds_toArray, List.set_cons_zero, List.set_cons_succ]
      refine AnyU.ready1 (i := 10) (by kernel_rfl) (AnyU.one rfl fun K hK => ?_)
      go_simp
      go_at_call 60
      refine (HU.out (World.drew _) ((TY.out.under (A1.out.mono HB.out)).keep fun _ _ => rfl) ((TX.out.under (A1.out.mono HB.out)).keep fun _ _ => rfl) (Nat.le_trans HB.out A1.out.size)).mono ?_
      rintro e yw2 ⟨rfl, hb⟩
      have A2 := Lib.hid (A1.out.drew.trans (hb.mono A1.out.drew.size))
      clear hb
      refine hK.out _ _ (Until.cons (fun h => absurd h (by decide)) (Until.cons (fun h => absurd h (by decide)) Until.nil)) (fun hV => ?_)
      clear hK K
      clear hU
      have hU := hV
      clear hV
      try simp only [Act.put, List.getElem_toArray, List.getElem_cons_zero, List.getElem_cons_succ, List.setIfInBounds_toArray, List.set_cons_zero, List.set_cons_succ]
      refine AnyU.ready1 (i := 11) (by kernel_rfl) (AnyU.one rfl fun K hK => ?_)
      go_simp
      refine hK.out _ _ (Until.off (by kernel_rfl)) (fun hV => ?_)
      clear hK K
      clear hU
      have hU := hV
      clear hV
      try simp only [Act.put, List.getElem_toArray, List.getElem_cons_zero, List.getElem_cons_succ, List.setIfInBounds_toArray, List.set_cons_zero, List.set_cons_succ]
      refine AnyU.done (by kernel_rfl) ?_
      have hrr := HRR.out
      cases o
      · cases sb
        · obtain rfl : R = 2 := by rw [← hrr]; rfl
          go_wp2_with fail
          go_ret
          exact ⟨rfl, A2.out⟩
        · obtain rfl : R = 3 := by rw [← hrr]; rfl
          go_wp2_with fail
          go_ret
          exact ⟨rfl, A2.out⟩
      · obtain rfl : R = 2 := by rw [← hrr]; rfl
        go_wp2_with fail
        go_ret
        exact ⟨rfl, A2.out⟩
end Go.Proofs.YtbffijiecbfpnaaGreatDoor
namespace Go.Proofs.YtbffijiecbfpnaaGreatDoor
open Go.RowKit
set_option linter.unusedSimpArgs false
set_option linter.unusedVariables false
def riseF : List ByteArray → ByteArray → List ByteArray
  | [], s => [s]
  | x :: l, s => if ltB x s = true then x :: riseF l s else if (x.toList == s.toList) = true then x :: l else s :: x :: l
theorem riseF_hit : ∀ {l : List ByteArray} {s : ByteArray} {k : Nat} (hk : k < l.length), (∀ i (h : i < l.length), i < k → ltB l[i] s = true) → ltB l[k] s = false → (l[k].toList == s.toList) = true → riseF l s = l
  | [], _, k, hk, _, _, _ => by simp at hk
  | x :: l, s, 0, _, _, h1, h2 => by
    simp only [List.getElem_cons_zero] at h1 h2
    rw [riseF, if_neg (by rw [h1]; decide), if_pos h2]
  | x :: l, s, k + 1, hk, h, h1, h2 => by
    have h0 := h 0 (by simp) (by omega)
    simp only [List.getElem_cons_zero] at h0
    simp only [List.getElem_cons_succ] at h1 h2
    rw [riseF, if_pos h0, riseF_hit (k := k) (by simpa using hk) (fun i hi hik => by have := h (i + 1) (by simpa using hi) (by omega); simpa using this) h1 h2]
theorem riseF_put : ∀ {l : List ByteArray} {s : ByteArray} {k : Nat} (hk : k ≤ l.length), (∀ i (h : i < l.length), i < k → ltB l[i] s = true) → (∀ h : k < l.length, ltB l[k] s = false ∧ (l[k].toList == s.toList) = false) → riseF l s = l.take k ++ [s] ++ l.drop k
  | [], s, 0, _, _, _ => rfl
  | [], s, k + 1, hk, _, _ => by simp at hk
  | x :: l, s, 0, _, _, h1 => by
    obtain ⟨h1, h2⟩ := h1 (by simp)
    simp only [List.getElem_cons_zero] at h1 h2
    rw [riseF, if_neg (by rw [h1]; decide), if_neg (by rw [h2]; decide)]
    rfl
  | x :: l, s, k + 1, hk, h, h1 => by
    have h0 := h 0 (by simp) (by omega)
    simp only [List.getElem_cons_zero] at h0
    rw [riseF, if_pos h0, riseF_put (k := k) (by simpa using hk) (fun i hi hik => by have := h (i + 1) (by simpa using hi) (by omega); simpa using this) (fun hh => by have := h1 (by simpa using hh); simpa using this)]
    simp
theorem riseF_mem : ∀ (l : List ByteArray) (s x : ByteArray), x ∈ riseF l s ↔ x ∈ l ∨ x = s
  | [], s, x => by simp [riseF]
  | y :: l, s, x => by
    rw [riseF]
    split
    · rw [List.mem_cons, riseF_mem l s x, List.mem_cons, or_assoc]
    · split
      · rename_i h
        rw [ba_eq] at h
        have h := of_decide_eq_true h
        subst h
        constructor
        · exact fun h => .inl h
        · rintro (h | h)
          · exact h
          · rw [h]; simp
      · rw [List.mem_cons]
        constructor
        · rintro (h | h)
          · exact .inr h
          · exact .inl h
        · rintro (h | h)
          · exact .inr h
          · exact .inl h
theorem riseF_len : ∀ (l : List ByteArray) (s : ByteArray), (riseF l s).length ≤ l.length + 1
  | [], s => by simp [riseF]
  | y :: l, s => by
    have := riseF_len l s
    rw [riseF]
    split
    · simp only [List.length_cons]; omega
    · split <;> simp
theorem riseF_pos : ∀ (l : List ByteArray) (s : ByteArray), 0 < (riseF l s).length
  | [], s => by simp [riseF]
  | y :: l, s => by
    rw [riseF]
    split
    · simp
    · split <;> simp
theorem rise_cons {x : ByteArray} : ∀ {l : List ByteArray}, riseB l = true → (∀ y ∈ l, ltB x y = true) → riseB (x :: l) = true
  | [], _, _ => rfl
  | y :: l, h, h2 => by
    rw [riseB, h2 y (by simp), h]; rfl
theorem riseF_rise : ∀ {l : List ByteArray} (s : ByteArray), riseB l = true → riseB (riseF l s) = true
  | [], s, _ => rfl
  | y :: l, s, h => by
    rw [riseF]
    split
    · rename_i h1
      refine rise_cons (riseF_rise s (rise_tail h)) fun z hz => ?_
      rcases (riseF_mem l s z).1 hz with hz | rfl
      · exact rise_head h hz
      · exact h1
    · rename_i h1
      split
      · exact h
      · rename_i h2
        have hlt : ltB s y = true := by
          have e := less_total s.toList y.toList
          cases hs : ltB s y
          · rw [show Op.bytesLess s.toList y.toList = false from hs] at e
            simp only [Bool.not_false, Bool.or_eq_true] at e
            rcases e with e | e
            · exact absurd e h1
            · exact absurd e h2
          · rfl
        refine rise_cons h fun z hz => ?_
        rcases List.mem_cons.1 hz with rfl | hz
        · exact hlt
        · exact ltB_trans hlt (rise_head h hz)
def riseL (l ss : List ByteArray) : List ByteArray := ss.foldl riseF l
theorem riseL_rise : ∀ {ss l : List ByteArray}, riseB l = true → riseB (riseL l ss) = true
  | [], _, h => h
  | s :: ss, l, h => riseL_rise (ss := ss) (riseF_rise s h)
theorem riseL_mem : ∀ (ss l : List ByteArray) (x : ByteArray), x ∈ riseL l ss ↔ x ∈ l ∨ x ∈ ss
  | [], l, x => by simp [riseL]
  | s :: ss, l, x => by
    have := riseL_mem ss (riseF l s) x
    rw [riseL, List.foldl_cons] at *
    rw [this, riseF_mem, List.mem_cons, or_assoc]
theorem riseL_len : ∀ (ss l : List ByteArray), (riseL l ss).length ≤ l.length + ss.length
  | [], l => by simp [riseL]
  | s :: ss, l => by
    have := riseL_len ss (riseF l s)
    have := riseF_len l s
    rw [riseL, List.foldl_cons] at *
    rw [List.length_cons]; omega
theorem riseL_succ {l ss : List ByteArray} {k : Nat} (hk : k < ss.length) : riseL l (ss.take (k + 1)) = riseF (riseL l (ss.take k)) ss[k] := by
  rw [riseL, List.take_succ_eq_append_getElem hk, List.foldl_append]; rfl
theorem riseL_union (l m : List ByteArray) : riseL (riseL [] l) m = unionN l m := by
  refine rise_eq (riseL_rise (riseL_rise rfl)) (unionN_rise _ _) fun s => ?_
  rw [riseL_mem, riseL_mem, unionN_mem]; simp
end Go.Proofs.YtbffijiecbfpnaaGreatDoor
namespace Go.Proofs.YtbffijiecbfpnaaGreatDoor
open Go.RowKit
set_option linter.unusedSimpArgs false
set_option linter.unusedVariables false
/-- a slice that reads as a row of strings -/
def StrV (w : World) (base : Nat) (v : Value) (l : List ByteArray) : Prop :=
  (v = .slice none 0 0 ∧ l = []) ∨ ∃ b o cap, v = .slice (some ⟨b, o, none⟩) l.length cap ∧ l.length ≤ cap ∧ 0 < l.length ∧ base ≤ b ∧ b < w.heap.size ∧ ∀ i (h : i < l.length), w.cell? ⟨b, o + i, none⟩ = some (.string l[i])
theorem StrV.under {w w' : World} {base : Nat} {v : Value} {l : List ByteArray} (h : StrV w base v l) (hb : Below w.heap.size w w') : StrV w' base v l := by
  rcases h with h | ⟨b, o, cap, h1, h2, hp, h0, h3, h4⟩
  · exact .inl h
  · exact .inr ⟨b, o, cap, h1, h2, hp, h0, Nat.lt_of_lt_of_le h3 hb.size, fun i hi => (hb.cell (p := ⟨b, _, none⟩) h3).trans (h4 i hi)⟩
theorem StrV.own {w : World} {base n : Nat} {v : Value} {l : List ByteArray} (h : w.ownsRow base 9 1 v n (l.map Value.string)) (hn : l.length = n) (hpos : 0 < n) : StrV w base v l := by
  obtain ⟨hl, ⟨rfl, h0⟩ | ⟨g, cap, cur, rfl, hb, hh, hnc, hcm, hsz, htk⟩⟩ := h
  · omega
  · subst hn
    refine .inr ⟨g, 0, cap, rfl, hnc, hpos, hb, (Array.getElem?_eq_some_iff.1 hh).1, fun i hi => ?_⟩
    have e : (l.map Value.string)[i]? = some (.string l[i]) := by simp [hi]
    rw [← htk, List.getElem?_take, if_pos (by omega)] at e
    simp [World.cell?, hh]
    simpa using e
theorem StrV.low {w : World} {base base' : Nat} {v : Value} {l : List ByteArray} (h : StrV w base v l) (hb : base' ≤ base) : StrV w base' v l := by
  rcases h with h | ⟨b, o, cap, h1, h2, hp, h0, h3, h4⟩
  · exact .inl h
  · exact .inr ⟨b, o, cap, h1, h2, hp, Nat.le_trans hb h0, h3, h4⟩
theorem emptyRow (w : World) (e size : Nat) : (w.alloc (.cells #[] e)).ownsRow w.heap.size e size (.slice (some ⟨w.heap.size, 0, none⟩) 0 0) 0 [] :=
  ⟨by simp, .inr ⟨w.heap.size, 0, #[], rfl, Nat.le_refl _, heap_alloc_new w _, Nat.le_refl _, by simp [maxLen], by simp, by simp⟩⟩
theorem one_str (l : List ByteArray) : ∀ u ∈ l.map Value.string, u.oneCell' = true := by
  intro u hu
  obtain ⟨x, -, rfl⟩ := List.mem_map.1 hu
  rfl
theorem strs_src {w : World} {b o : Nat} {l : List ByteArray} (h : ∀ i (h : i < l.length), w.cell? ⟨b, o + i, none⟩ = some (.string l[i])) : ∀ j u, (l.map Value.string)[j]? = some u → w.cell? (Addr.add ⟨b, o, none⟩ j) = some u := by
  intro j u hu
  have hj : j < l.length := by
    have := (List.getElem?_eq_some_iff.1 hu).1
    simpa using this
  rw [addN, h j hj]
  simp [hj] at hu
  rw [hu]
set_option maxRecDepth 100000 in
set_option maxHeartbeats 8000000 in
theorem rise_c (base : Nat) (l : List ByteArray) (s : ByteArray) (v : Value) (w : World) (h1 : StrV w base v l) (hbase : base ≤ w.heap.size) (hl : l.length ≤ 100000) :
    Calls Tryz.prog 37 #[v, .string s] w fun e w' => ∃ v', e = .returned v' ∧ StrV w' base v' (riseF l s) ∧ Below w.heap.size w w' := by
  obtain ⟨i0, hi, hz0, hz1, hz2⟩ := info_parts info_strF
  rcases h1 with ⟨rfl, rfl⟩ | ⟨b, o, cap, rfl, hcap, hlp, hbb, hb, hc⟩
  · go_enter Tryz.func37, Tryz.ntmps37
    go_wp2_with fail
    go_loop [5] (fun i => i = .int .i64 0) (fun _ => 0)
    case atStart => rfl
    case round =>
      obtain rfl := hrel
      go_upto_region 7 with (at_builtin; refine wpList_append_own_none rfl _ _ 38 rfl w.heap.size 9 i0 1 Tryz.underlying38 hi _ 0 [] rfl (emptyRow w 9 1) rfl ?_)
      have hb1 : Below w.heap.size w (w.alloc (.cells #[] 9)) := (Below.refl w.heap.size w).alloc (Nat.le_refl _) _
      have hown1 := emptyRow w 9 1
      generalize (w.alloc (.cells #[] 9)) = w1 at hb1 hown1 ⊢
      have HB1 := Lib.hid hb1
      have HW1 := Lib.hid hown1
      clear hb1 hown1
      go_upto_region 8 with (at_builtin; refine wpList_append_own _ rfl _ _ 38 rfl w.heap.size 9 i0 (.string { data := #[] }) 1 16 Tryz.underlying38 hi hz0 hz1 hz2 rfl (by decide) _ 0 [] rfl (owns_under' HW1.out ((Below.refl w1.heap.size w1).alloc (Nat.le_refl _) _)) ⟨w1.heap.size, 0, none⟩ 1 1 [.string s] rfl rfl (by exact World.news_of_block (cs := #[.string s]) (t := 9) (fr := (0, 0)) (heap_alloc_new w1 _)) (by simp [Value.oneCell']) (by unfold maxLen; omega) (by omega) (by have := HB1.out.size; simp; omega) ?_)
      intro v2 w2 hown2 hg2 hn2
      have hb2 : Below w.heap.size w w2 := (HB1.out.alloc HB1.out.size _).grown hg2 (by have := HB1.out.size; simp; omega) (fun q hq => (owns_lt' HW1.out hq).1)
      have HB2 := Lib.hid hb2
      have HW2 := Lib.hid hown2
      clear hb2 hown2 hg2 hn2 HW1 HB1
      go_wp2_with (at_builtin; refine wpList_append_own_none rfl _ _ 38 rfl w.heap.size 9 i0 1 Tryz.underlying38 hi v2 (0 + 1) _ rfl HW2.out rfl ?_)
      go_ret
      exact ⟨v2, rfl, (StrV.own (l := [s]) HW2.out rfl (by decide)).low hbase, HB2.out⟩
  · obtain ⟨R, hR⟩ : ∃ R, riseF l s = R := ⟨_, rfl⟩
    simp only [hR]
    have HR := Lib.hid hR
    have HC := Lib.hid hc
    have HC0 := Lib.hid (show ∀ i (h : i < l.length), (w.alloc (.cells #[] 9)).cell? ⟨b, o + i, none⟩ = some (.string l[i]) from fun i hi => (World.cell?_alloc_lt _ _ _ hb).trans (hc i hi))
    clear hR hc
    go_enter Tryz.func37, Tryz.ntmps37
    go_wp2_with fail
    go_loop [5] (fun i => ∃ k : Nat, i = .int .i64 k ∧ k ≤ l.length ∧ ∀ i (h : i < l.length), i < k → ltB l[i] s = true) (fun i => l.length - (intOf i).toNat)
    case atStart => exact ⟨0, rfl, Nat.zero_le _, fun i _ hi => absurd hi (by omega)⟩
    case round =>
      obtain ⟨k, rfl, hk, hall⟩ := hrel
      have HA := Lib.hid hall
      clear hall
      have hcap0 : ¬ cap = 0 := by omega
      have hkc : (k : Int) ≤ (cap : Int) := by omega
      have hkl : (k : Int) ≤ (l.length : Int) := by omega
      by_cases hlt : k < l.length
      · have hltI : (k : Int) < (l.length : Int) := by omega
        have c0 := HC.out k hlt
        obtain ⟨x, hx⟩ : ∃ x, l[k] = x := ⟨_, rfl⟩
        rw [hx] at c0
        have HX := Lib.hid hx
        obtain ⟨t, ht⟩ : ∃ t, Op.bytesLess x.toList s.toList = t := ⟨_, rfl⟩
        have HT := Lib.hid (show ltB x s = t from ht)
        clear hx
        cases t
        · obtain ⟨q, hq⟩ : ∃ q, (x.toList == s.toList) = q := ⟨_, rfl⟩
          have HQ := Lib.hid hq
          cases q
          · have hr : l.take k ++ [s] ++ l.drop k = R := (HR.out.symm.trans (riseF_put hk HA.out (fun _ => by rw [HX.out]; exact ⟨HT.out, HQ.out⟩))).symm
            go_upto_region 6 with fail
            go_upto_region 7 with (at_builtin; refine wpList_append_own _ rfl _ _ 38 rfl w.heap.size 9 i0 (.string { data := #[] }) 1 16 Tryz.underlying38 hi hz0 hz1 hz2 rfl (by decide) _ 0 [] rfl (emptyRow w 9 1) ⟨b, o, none⟩ k _ ((l.take k).map Value.string) rfl (by simp; omega) (by exact strs_src fun i hi => by rw [HC0.out i (by rw [List.length_take] at hi; omega)]; simp) (one_str _) (by unfold maxLen; omega) (by omega) (by simp) ?_)
            intro v1 w1 hown1 hg1 hn1
            have hb1 : Below w.heap.size w w1 := ((Below.refl w.heap.size w).alloc (Nat.le_refl _) _).grown hg1 (by simp) (fun q hq => by simp [Value.ownBlock] at hq; omega)
            have hown1 : w1.ownsRow w.heap.size 9 1 v1 k ((l.take k).map Value.string) := by rw [List.map_take]; exact hown1
            have HB1 := Lib.hid hb1
            have HW1 := Lib.hid hown1
            clear hb1 hown1 hg1 hn1
            go_upto_region 8 with (at_builtin; refine wpList_append_own _ rfl _ _ 38 rfl w.heap.size 9 i0 (.string { data := #[] }) 1 16 Tryz.underlying38 hi hz0 hz1 hz2 rfl (by decide) v1 k ((l.take k).map Value.string) rfl (owns_under' HW1.out ((Below.refl w1.heap.size w1).alloc (Nat.le_refl _) _)) ⟨w1.heap.size, 0, none⟩ 1 1 [.string s] rfl rfl (by exact World.news_of_block (cs := #[.string s]) (t := 9) (fr := (0, 0)) (heap_alloc_new w1 _)) (by simp [Value.oneCell']) (by unfold maxLen; omega) (by omega) (by have := HB1.out.size; simp; omega) ?_)
            intro v2 w2 hown2 hg2 hn2
            have hb2 : Below w.heap.size w w2 := (HB1.out.alloc HB1.out.size _).grown hg2 (by have := HB1.out.size; simp; omega) (fun q hq => (owns_lt' HW1.out hq).1)
            have HB2 := Lib.hid hb2
            have HW2 := Lib.hid hown2
            have HC2 := Lib.hid (show ∀ i (h : i < l.length), w2.cell? ⟨b, o + i, none⟩ = some (.string l[i]) from fun i hi => (hb2.cell (p := ⟨b, _, none⟩) hb).trans (HC.out i hi))
            clear hb2 hown2 hg2 hn2 HW1 HB1
            go_wp2_with (at_builtin; refine wpList_append_own _ rfl _ _ 38 rfl w.heap.size 9 i0 (.string { data := #[] }) 1 16 Tryz.underlying38 hi hz0 hz1 hz2 rfl (by decide) v2 (k + 1) _ rfl HW2.out ⟨b, o + k, none⟩ (l.length - k) _ ((l.drop k).map Value.string) rfl (by simp) (by exact strs_src fun i hi => by rw [Nat.add_assoc, HC2.out (k + i) (by rw [List.length_drop] at hi; omega)]; simp) (one_str _) (by unfold maxLen; omega) (by omega) (by exact HB2.out.size) ?_)
            intro v3 w3 hown3 hg3 hn3
            have hb3 : Below w.heap.size w w3 := HB2.out.grown hg3 HB2.out.size (fun q hq => (owns_lt' HW2.out hq).1)
            have hown3 : w3.ownsRow w.heap.size 9 1 v3 (k + 1 + (l.length - k)) (R.map Value.string) := by rw [← hr]; simpa using hown3
            have hRl : R.length = k + 1 + (l.length - k) := by rw [← hr]; simp; omega
            have HV := Lib.hid ((StrV.own hown3 hRl (by omega)).low hbase)
            have HB3 := Lib.hid hb3
            clear hb3 hown3 hg3 hn3 hRl hr
            go_wp2_with fail
            go_ret
            exact ⟨v3, rfl, HV.out, HB3.out⟩
          · have hr := HR.out.symm.trans (riseF_hit hlt HA.out (by rw [HX.out]; exact HT.out) (by rw [HX.out]; exact HQ.out))
            subst hr
            go_wp2_with fail
            go_ret
            exact ⟨_, rfl, .inr ⟨b, o, cap, rfl, hcap, hlp, hbb, hb, HC.out⟩, Below.refl _ _⟩
        · go_wp2_with fail
          exact ⟨⟨k + 1, by go_num, by omega, fun i hi hik => by
            by_cases e : i = k
            · subst e; rw [HX.out]; exact HT.out
            · exact HA.out i hi (by omega)⟩, by simp [intOf]; omega⟩
      · have hltI : ¬ (k : Int) < (l.length : Int) := by omega
        have hr : l.take k ++ [s] ++ l.drop k = R := (HR.out.symm.trans (riseF_put hk HA.out (fun h => absurd h hlt))).symm
        by_cases hck : k = cap
        · obtain rfl := hck
          have hlk : l.length ≤ k := by omega
          rw [List.drop_of_length_le (show l.length ≤ k by omega), List.append_nil] at hr
          go_upto_region 6 with fail
          go_upto_region 7 with (at_builtin; refine wpList_append_own _ rfl _ _ 38 rfl w.heap.size 9 i0 (.string { data := #[] }) 1 16 Tryz.underlying38 hi hz0 hz1 hz2 rfl (by decide) _ 0 [] rfl (emptyRow w 9 1) ⟨b, o, none⟩ k _ ((l.take k).map Value.string) rfl (by simp; omega) (by exact strs_src fun i hi => by rw [HC0.out i (by rw [List.length_take] at hi; omega)]; simp) (one_str _) (by unfold maxLen; omega) (by omega) (by simp) ?_)
          intro v1 w1 hown1 hg1 hn1
          have hb1 : Below w.heap.size w w1 := ((Below.refl w.heap.size w).alloc (Nat.le_refl _) _).grown hg1 (by simp) (fun q hq => by simp [Value.ownBlock] at hq; omega)
          have hown1 : w1.ownsRow w.heap.size 9 1 v1 k ((l.take k).map Value.string) := by rw [List.map_take]; exact hown1
          have HB1 := Lib.hid hb1
          have HW1 := Lib.hid hown1
          clear hb1 hown1 hg1 hn1
          go_upto_region 8 with (at_builtin; refine wpList_append_own _ rfl _ _ 38 rfl w.heap.size 9 i0 (.string { data := #[] }) 1 16 Tryz.underlying38 hi hz0 hz1 hz2 rfl (by decide) v1 k ((l.take k).map Value.string) rfl (owns_under' HW1.out ((Below.refl w1.heap.size w1).alloc (Nat.le_refl _) _)) ⟨w1.heap.size, 0, none⟩ 1 1 [.string s] rfl rfl (by exact World.news_of_block (cs := #[.string s]) (t := 9) (fr := (0, 0)) (heap_alloc_new w1 _)) (by simp [Value.oneCell']) (by unfold maxLen; omega) (by omega) (by have := HB1.out.size; simp; omega) ?_)
          intro v2 w2 hown2 hg2 hn2
          have hb2 : Below w.heap.size w w2 := (HB1.out.alloc HB1.out.size _).grown hg2 (by have := HB1.out.size; simp; omega) (fun q hq => (owns_lt' HW1.out hq).1)
          have HB2 := Lib.hid hb2
          have HW2 := Lib.hid hown2
          have HC2 := Lib.hid (show ∀ i (h : i < l.length), w2.cell? ⟨b, o + i, none⟩ = some (.string l[i]) from fun i hi => (hb2.cell (p := ⟨b, _, none⟩) hb).trans (HC.out i hi))
          clear hb2 hown2 hg2 hn2 HW1 HB1
          go_wp2_with (at_builtin; refine wpList_append_own _ rfl _ _ 38 rfl w.heap.size 9 i0 (.string { data := #[] }) 1 16 Tryz.underlying38 hi hz0 hz1 hz2 rfl (by decide) v2 (k + 1) _ rfl HW2.out ⟨b, o, none⟩ 0 _ (([] : List ByteArray).map Value.string) rfl (by simp) (by exact fun j u hu => by simp at hu) (one_str _) (by unfold maxLen; omega) (by omega) (by exact HB2.out.size) ?_)
          intro v3 w3 hown3 hg3 hn3
          have hb3 : Below w.heap.size w w3 := HB2.out.grown hg3 HB2.out.size (fun q hq => (owns_lt' HW2.out hq).1)
          have hown3 : w3.ownsRow w.heap.size 9 1 v3 (k + 1 + 0) (R.map Value.string) := by rw [← hr]; simpa using hown3
          have hRl : R.length = k + 1 + 0 := by rw [← hr]; simp; omega
          have HV := Lib.hid ((StrV.own hown3 hRl (by omega)).low hbase)
          have HB3 := Lib.hid hb3
          clear hb3 hown3 hg3 hn3 hRl hr
          go_wp2_with fail
          go_ret
          exact ⟨v3, rfl, HV.out, HB3.out⟩
        · have hck2 : ¬ cap = k := fun e => hck e.symm
          have hlk : l.length ≤ k := by omega
          rw [List.drop_of_length_le (show l.length ≤ k by omega), List.append_nil] at hr
          go_upto_region 6 with fail
          go_upto_region 7 with (at_builtin; refine wpList_append_own _ rfl _ _ 38 rfl w.heap.size 9 i0 (.string { data := #[] }) 1 16 Tryz.underlying38 hi hz0 hz1 hz2 rfl (by decide) _ 0 [] rfl (emptyRow w 9 1) ⟨b, o, none⟩ k _ ((l.take k).map Value.string) rfl (by simp; omega) (by exact strs_src fun i hi => by rw [HC0.out i (by rw [List.length_take] at hi; omega)]; simp) (one_str _) (by unfold maxLen; omega) (by omega) (by simp) ?_)
          intro v1 w1 hown1 hg1 hn1
          have hb1 : Below w.heap.size w w1 := ((Below.refl w.heap.size w).alloc (Nat.le_refl _) _).grown hg1 (by simp) (fun q hq => by simp [Value.ownBlock] at hq; omega)
          have hown1 : w1.ownsRow w.heap.size 9 1 v1 k ((l.take k).map Value.string) := by rw [List.map_take]; exact hown1
          have HB1 := Lib.hid hb1
          have HW1 := Lib.hid hown1
          clear hb1 hown1 hg1 hn1
          go_upto_region 8 with (at_builtin; refine wpList_append_own _ rfl _ _ 38 rfl w.heap.size 9 i0 (.string { data := #[] }) 1 16 Tryz.underlying38 hi hz0 hz1 hz2 rfl (by decide) v1 k ((l.take k).map Value.string) rfl (owns_under' HW1.out ((Below.refl w1.heap.size w1).alloc (Nat.le_refl _) _)) ⟨w1.heap.size, 0, none⟩ 1 1 [.string s] rfl rfl (by exact World.news_of_block (cs := #[.string s]) (t := 9) (fr := (0, 0)) (heap_alloc_new w1 _)) (by simp [Value.oneCell']) (by unfold maxLen; omega) (by omega) (by have := HB1.out.size; simp; omega) ?_)
          intro v2 w2 hown2 hg2 hn2
          have hb2 : Below w.heap.size w w2 := (HB1.out.alloc HB1.out.size _).grown hg2 (by have := HB1.out.size; simp; omega) (fun q hq => (owns_lt' HW1.out hq).1)
          have HB2 := Lib.hid hb2
          have HW2 := Lib.hid hown2
          have HC2 := Lib.hid (show ∀ i (h : i < l.length), w2.cell? ⟨b, o + i, none⟩ = some (.string l[i]) from fun i hi => (hb2.cell (p := ⟨b, _, none⟩) hb).trans (HC.out i hi))
          clear hb2 hown2 hg2 hn2 HW1 HB1
          go_wp2_with (at_builtin; refine wpList_append_own _ rfl _ _ 38 rfl w.heap.size 9 i0 (.string { data := #[] }) 1 16 Tryz.underlying38 hi hz0 hz1 hz2 rfl (by decide) v2 (k + 1) _ rfl HW2.out ⟨b, o + k, none⟩ 0 _ (([] : List ByteArray).map Value.string) rfl (by simp) (by exact fun j u hu => by simp at hu) (one_str _) (by unfold maxLen; omega) (by omega) (by exact HB2.out.size) ?_)
          intro v3 w3 hown3 hg3 hn3
          have hb3 : Below w.heap.size w w3 := HB2.out.grown hg3 HB2.out.size (fun q hq => (owns_lt' HW2.out hq).1)
          have hown3 : w3.ownsRow w.heap.size 9 1 v3 (k + 1 + 0) (R.map Value.string) := by rw [← hr]; simpa using hown3
          have hRl : R.length = k + 1 + 0 := by rw [← hr]; simp; omega
          have HV := Lib.hid ((StrV.own hown3 hRl (by omega)).low hbase)
          have HB3 := Lib.hid hb3
          clear hb3 hown3 hg3 hn3 hRl hr
          go_wp2_with fail
          go_ret
          exact ⟨v3, rfl, HV.out, HB3.out⟩
end Go.Proofs.YtbffijiecbfpnaaGreatDoor
namespace Go.Proofs.YtbffijiecbfpnaaGreatDoor
open Go.RowKit
set_option linter.unusedSimpArgs false
set_option linter.unusedVariables false
def bigB (c : Chg) : Bool := c.kind == 1 || c.kind == 2
/-- the bump of changes -/
def ofF (l : List Chg) : Int := if l.any bigB then 3 else if l.isEmpty then 1 else 2
theorem ofF_big {l : List Chg} {k : Nat} (hk : k < l.length) (h : bigB l[k] = true) : ofF l = 3 := by
  rw [ofF, if_pos]
  exact List.any_eq_true.2 ⟨_, List.getElem_mem hk, h⟩
theorem ofF_small {l : List Chg} (h : ∀ i (hi : i < l.length), bigB l[i] = false) : ofF l = if l.length = 0 then 1 else 2 := by
  have : l.any bigB = false := by
    rw [List.any_eq_false]
    intro x hx
    obtain ⟨i, hi, rfl⟩ := List.getElem_of_mem hx
    simp [h i hi]
  rw [ofF, this]
  cases l <;> simp
theorem chgF_len {a b : List If} (hl : a.length ≤ 1000) (hl' : b.length ≤ 1000) (hfa : a.all fewX = true) (hfb : b.all fewX = true) : (chgF a b).length ≤ 2000 * 800 := by
  have hU := unionN_len (a.map If.mod) (b.map If.mod)
  rw [List.length_map, List.length_map] at hU
  have h := flatMap_le (f := modF a b) (K := 800) (fun m => by
    have e1 := first_few hfa m
    have e2 := first_few hfb m
    have e3 := rowsF_len m ((firstIface a m).getD zIf).types ((firstIface b m).getD zIf).types true
    have e4 := rowsF_len m ((firstIface a m).getD zIf).vals ((firstIface b m).getD zIf).vals false
    rw [modF, List.length_append]; omega) (unionN (a.map If.mod) (b.map If.mod))
  have : (unionN (a.map If.mod) (b.map If.mod)).length * 800 ≤ 2000 * 800 := Nat.mul_le_mul_right _ (by omega)
  exact Nat.le_trans h this
theorem flatC_get : ∀ (l : List Chg) (i : Nat) (h : i < l.length) (j : Nat), j < 4 → (flatC l)[i * 4 + j]? = l[i].cells[j]?
  | [], i, h, _, _ => by simp at h
  | d :: l, 0, _, j, hj => by
    simp only [flatC, List.flatMap_cons, Nat.zero_mul, Nat.zero_add, List.getElem_cons_zero]
    rw [List.getElem?_append_left (by simpa [Chg.cells] using hj)]
  | d :: l, i + 1, h, j, hj => by
    have h' : i < l.length := by simpa using h
    have ih := flatC_get l i h' j hj
    simp only [flatC, List.flatMap_cons, List.getElem_cons_succ] at ih ⊢
    rw [List.getElem?_append_right (by simp [Chg.cells]; omega), ← ih]
    congr 1
    simp [Chg.cells]; omega
/-- a slice that reads as a row of changes -/
def ChgAt (w : World) (v : Value) (l : List Chg) : Prop :=
  ∃ p cap, v = .slice p l.length cap ∧ (0 < l.length → ∃ b o, p = some ⟨b, o, none⟩ ∧ b < w.heap.size ∧ ∀ i (h : i < l.length) (j : Nat), j < 4 → w.cell? ⟨b, o + i * 4 + j, none⟩ = l[i].cells[j]?)
theorem ChgAt.own {w : World} {base : Nat} {v : Value} {l : List Chg} (h : w.ownsRow base 55 4 v l.length (flatC l)) : ChgAt w v l := by
  obtain ⟨-, ⟨rfl, hn⟩ | ⟨g, cap, cur, rfl, hb, hh, hnc, hcm, hsz, htk⟩⟩ := h
  · exact ⟨none, 0, by rw [hn], fun h => by omega⟩
  · refine ⟨_, cap, rfl, fun _ => ⟨g, 0, rfl, (Array.getElem?_eq_some_iff.1 hh).1, fun i hi j hj => ?_⟩⟩
    rw [← flatC_get l i hi j hj, ← htk, List.getElem?_take, if_pos (by omega)]
    simp [World.cell?, hh]
theorem ChgAt.under {w w' : World} {v : Value} {l : List Chg} (h : ChgAt w v l) (hb : Below w.heap.size w w') : ChgAt w' v l := by
  obtain ⟨p, cap, rfl, h⟩ := h
  refine ⟨p, cap, rfl, fun h0 => ?_⟩
  obtain ⟨b, o, rfl, hlt, g⟩ := h h0
  exact ⟨b, o, rfl, Nat.lt_of_lt_of_le hlt hb.size, fun i hi j hj => (hb.cell (p := ⟨b, _, none⟩) hlt).trans (g i hi j hj)⟩
end Go.Proofs.YtbffijiecbfpnaaGreatDoor
namespace Go.Proofs.YtbffijiecbfpnaaGreatDoor
open Go.RowKit
set_option linter.unusedSimpArgs false
set_option linter.unusedVariables false
/-- what interfaces have of a name -/
def look (l : List If) (m : ByteArray) (o : Bool) (n : ByteArray) : Option Nm :=
  firstNamed (if o = true then ((firstIface l m).getD zIf).types else ((firstIface l m).getD zIf).vals) n
theorem firstNamed_mem {l : List Nm} {n : ByteArray} : n ∈ l.map Nm.name ↔ (firstNamed l n).isSome = true := by
  rw [firstNamed, List.find?_isSome, List.mem_map]
  constructor
  · rintro ⟨x, hx, rfl⟩
    exact ⟨x, hx, ba_yes rfl⟩
  · rintro ⟨x, hx, h⟩
    rw [ba_eq] at h
    exact ⟨x, hx, by simpa using h⟩
theorem firstIface_mem {l : List If} {n : ByteArray} : n ∈ l.map If.mod ↔ (firstIface l n).isSome = true := by
  rw [firstIface, List.find?_isSome, List.mem_map]
  constructor
  · rintro ⟨x, hx, rfl⟩
    exact ⟨x, hx, ba_yes rfl⟩
  · rintro ⟨x, hx, h⟩
    rw [ba_eq] at h
    exact ⟨x, hx, by simpa using h⟩
theorem look_mod {l : List If} {m n : ByteArray} {o : Bool} (h : (look l m o n).isSome = true) : m ∈ l.map If.mod := by
  rw [firstIface_mem]
  cases hf : firstIface l m with
  | some x => rfl
  | none =>
    rw [look, hf] at h
    cases o <;> simp [zIf, firstNamed] at h
theorem rowsF_mem {m : ByteArray} {a b : List Nm} {o : Bool} {c : Chg} : c ∈ rowsF m a b o ↔ c.mod = m ∧ c.ofType = o ∧ ((firstNamed a c.name).isSome = true ∨ (firstNamed b c.name).isSome = true) ∧ c.kind = kindO (firstNamed a c.name) (firstNamed b c.name) o ∧ 0 < c.kind := by
  rw [rowsF, List.mem_flatMap]
  constructor
  · rintro ⟨n, hn, hc⟩
    rw [unionN_mem, firstNamed_mem, firstNamed_mem] at hn
    rw [oneF] at hc
    split at hc
    · rename_i hk
      simp only [List.mem_singleton] at hc
      subst hc
      exact ⟨rfl, rfl, hn, rfl, hk⟩
    · cases hc
  · rintro ⟨rfl, rfl, hn, hk, h0⟩
    refine ⟨c.name, by rw [unionN_mem, firstNamed_mem, firstNamed_mem]; exact hn, ?_⟩
    rw [oneF, kindF, ← hk, if_pos h0]
    simp
theorem chg_mem {a b : List If} {c : Chg} : c ∈ chgF a b ↔ ((look a c.mod c.ofType c.name).isSome = true ∨ (look b c.mod c.ofType c.name).isSome = true) ∧ c.kind = kindO (look a c.mod c.ofType c.name) (look b c.mod c.ofType c.name) c.ofType ∧ 0 < c.kind := by
  rw [chgF, List.mem_flatMap]
  constructor
  · rintro ⟨m, hm, hc⟩
    rw [modF, List.mem_append, rowsF_mem, rowsF_mem] at hc
    rcases hc with ⟨rfl, ho, hn, hk, h0⟩ | ⟨rfl, ho, hn, hk, h0⟩
    · rw [look, look, ho]; exact ⟨hn, hk, h0⟩
    · rw [look, look, ho]; exact ⟨hn, hk, h0⟩
  · rintro ⟨hn, hk, h0⟩
    refine ⟨c.mod, ?_, ?_⟩
    · rw [unionN_mem]
      rcases hn with hn | hn
      · exact .inl (look_mod hn)
      · exact .inr (look_mod hn)
    · rw [modF, List.mem_append, rowsF_mem, rowsF_mem]
      cases ho : c.ofType
      · rw [look, look, ho] at hn hk; exact .inr ⟨rfl, rfl, hn, hk, h0⟩
      · rw [look, look, ho] at hn hk; exact .inl ⟨rfl, rfl, hn, hk, h0⟩
theorem named_plain {p : ByteArray → Bool} {l : List Nm} (h : namedB p l = true) {x : Nm} (hx : x ∈ l) : PlainB x.ty = true := by
  obtain ⟨i, hi, rfl⟩ := List.getElem_of_mem hx
  rw [namedB, List.all_eq_true] at h
  have := h i (List.mem_range.2 hi)
  rw [nmOk, dif_pos hi] at this
  simp only [Bool.and_eq_true] at this
  exact this.2.2
theorem may_iface {l : List If} (h : mayP l = true) {x : If} (hx : x ∈ l) : imayB x = true := by
  obtain ⟨i, hi, rfl⟩ := List.getElem_of_mem hx
  rw [mayP, Bool.and_eq_true, List.all_eq_true] at h
  have := h.1 i (List.mem_range.2 hi)
  rw [ipOk, dif_pos hi] at this
  simp only [Bool.and_eq_true] at this
  exact this.1
theorem look_plain {l : List If} (h : mayP l = true) {m n : ByteArray} {o : Bool} {x : Nm} (hx : look l m o n = some x) : PlainB x.ty = true := by
  rw [look] at hx
  have hm := List.mem_of_find?_eq_some hx
  cases hf : firstIface l m with
  | none => rw [hf] at hm; cases o <;> simp [zIf] at hm
  | some y =>
    have hy := may_iface h (List.mem_of_find?_eq_some hf)
    rw [imayB] at hy
    simp only [Bool.and_eq_true] at hy
    rw [hf] at hm
    cases o
    · exact named_plain hy.2.2.2.2.2 hm
    · exact named_plain hy.2.2.2.2.1 hm
theorem same_plain {a b : Ty} (ha : PlainB a = true) (hb : PlainB b = true) : sameB a b = true ↔ a = b := by
  rw [sameB, plain_may ha, plain_may hb, Bool.true_and, Bool.true_and, alike_iff]
theorem subB_plain {a b : Ty} (ha : PlainB a = true) (hb : PlainB b = true) : SubB a b = subF 32 a b := by rw [SubB, ha, hb]; simp
theorem subB_refl {a : Ty} (ha : PlainB a = true) : SubB a a = true := by
  rw [subB_plain ha ha]
  exact sub_refl 32 a (plain_may ha) (may_deep (plain_may ha))
theorem subB_trans {a b c : Ty} (ha : PlainB a = true) (hb : PlainB b = true) (hc : PlainB c = true) (h1 : SubB a b = true) (h2 : SubB b c = true) : SubB a c = true := by
  rw [subB_plain ha hb] at h1
  rw [subB_plain hb hc] at h2
  rw [subB_plain ha hc]
  exact sub_trans 32 a b c (plain_may ha) (plain_may hb) (plain_may hc) (may_deep (plain_may ha)) (may_deep (plain_may hb)) (may_deep (plain_may hc)) h1 h2
theorem turn_zero {a b : Ty} {o : Bool} (ha : PlainB a = true) (hb : PlainB b = true) : turnF a b o = 0 ↔ a = b := by
  rw [← same_plain ha hb, turnF]
  by_cases h : sameB a b = true
  · simp [h]
  · rw [if_neg h]
    constructor
    · intro e; split at e <;> cases e
    · intro e; exact absurd e h
theorem turn_two {a b : Ty} {o : Bool} (ha : PlainB a = true) (hb : PlainB b = true) : turnF a b o = 2 ↔ a ≠ b ∧ (o = true ∨ SubB b a = false) := by
  rw [ne_eq, ← same_plain ha hb, turnF]
  by_cases h : sameB a b = true
  · rw [if_pos h]
    constructor
    · intro e; cases e
    · intro e; exact absurd h e.1
  · rw [if_neg h]
    by_cases h2 : o = true ∨ SubB b a = false
    · rw [if_pos h2]; exact ⟨fun _ => ⟨h, h2⟩, fun _ => rfl⟩
    · rw [if_neg h2]
      constructor
      · intro e; cases e
      · intro e; exact absurd e.2 h2
theorem turn_cases (a b : Ty) (o : Bool) : turnF a b o = 0 ∨ turnF a b o = 2 ∨ turnF a b o = 3 := by
  unfold turnF
  split
  · exact .inl rfl
  · split
    · exact .inr (.inl rfl)
    · exact .inr (.inr rfl)
/-- is there anything, and anything great, that changed of a name? -/
theorem of_big {l : List Chg} : ofF l = 3 ↔ ∃ c ∈ l, c.kind = 1 ∨ c.kind = 2 := by
  rw [ofF]
  by_cases h : l.any bigB = true
  · rw [if_pos h]
    obtain ⟨c, hc, hb⟩ := List.any_eq_true.1 h
    simp [bigB] at hb
    exact ⟨fun _ => ⟨c, hc, hb⟩, fun _ => rfl⟩
  · rw [if_neg h]
    constructor
    · intro e; split at e <;> cases e
    · rintro ⟨c, hc, hb⟩
      exact absurd (List.any_eq_true.2 ⟨c, hc, by simpa [bigB] using hb⟩) h
theorem of_one {l : List Chg} : ofF l = 1 ↔ l = [] := by
  rw [ofF]
  cases l with
  | nil => simp
  | cons x l =>
    constructor
    · intro e
      split at e
      · cases e
      · simp at e
    · intro e; cases e
theorem of_range (l : List Chg) : ofF l = 1 ∨ ofF l = 2 ∨ ofF l = 3 := by
  rw [ofF]
  split
  · exact .inr (.inr rfl)
  · split
    · exact .inl rfl
    · exact .inr (.inl rfl)
theorem big_at {a b : List If} {m n : ByteArray} {o : Bool} {k : Int} (hn : (look a m o n).isSome = true ∨ (look b m o n).isSome = true) (hk : kindO (look a m o n) (look b m o n) o = k) (h : k = 1 ∨ k = 2) : ofF (chgF a b) = 3 :=
  of_big.2 ⟨⟨k, m, n, o⟩, chg_mem.2 ⟨hn, hk.symm, by show 0 < k; omega⟩, h⟩
theorem some_at {a b : List If} {m n : ByteArray} {o : Bool} {k : Int} (hn : (look a m o n).isSome = true ∨ (look b m o n).isSome = true) (hk : kindO (look a m o n) (look b m o n) o = k) (h : 0 < k) : chgF a b ≠ [] := by
  intro e
  have : (⟨k, m, n, o⟩ : Chg) ∈ chgF a b := chg_mem.2 ⟨hn, hk.symm, h⟩
  rw [e] at this
  cases this
theorem bump_big {a b c : List If} (ma : mayP a = true) (mb : mayP b = true) (mc : mayP c = true) (h : ofF (chgF a c) = 3) : ofF (chgF a b) = 3 ∨ ofF (chgF b c) = 3 := by
  obtain ⟨⟨k, m, n, o⟩, hc, hb⟩ := of_big.1 h
  obtain ⟨hn, hk, h0⟩ := chg_mem.1 hc
  simp only at hb hn hk h0
  have PA := fun x => look_plain ma (m := m) (n := n) (o := o) (x := x)
  have PB := fun x => look_plain mb (m := m) (n := n) (o := o) (x := x)
  have PC := fun x => look_plain mc (m := m) (n := n) (o := o) (x := x)
  have b1 := @big_at a b m n o
  have b2 := @big_at b c m n o
  generalize look a m o n = fa at hn hk PA b1
  generalize look b m o n = fb at PB b1 b2
  generalize look c m o n = fc at hn hk PC b2
  cases fa with
  | none => simp only [kindO] at hk; omega
  | some x =>
    have px := PA x rfl
    cases fb with
    | none => exact .inl (b1 (k := 1) (.inl rfl) rfl (.inl rfl))
    | some y =>
      have py := PB y rfl
      cases fc with
      | none => exact .inr (b2 (k := 1) (.inl rfl) rfl (.inl rfl))
      | some z =>
        have pz := PC z rfl
        have hk2 : turnF x.ty z.ty o = 2 := by
          simp only [kindO] at hk
          rcases turn_cases x.ty z.ty o with e | e | e <;> omega
        obtain ⟨hne, ho⟩ := (turn_two px pz).1 hk2
        rcases turn_cases x.ty y.ty o with e1 | e1 | e1
        · have e := (turn_zero px py).1 e1
          rw [e] at hk2
          exact .inr (b2 (k := 2) (.inl rfl) hk2 (.inr rfl))
        · exact .inl (b1 (k := 2) (.inl rfl) e1 (.inr rfl))
        · rcases turn_cases y.ty z.ty o with e2 | e2 | e2
          · have e := (turn_zero py pz).1 e2
            rw [← e] at hk2
            omega
          · exact .inr (b2 (k := 2) (.inl rfl) e2 (.inr rfl))
          · exfalso
            have n1 : ¬ turnF x.ty y.ty o = 0 := by omega
            have n2 : ¬ turnF y.ty z.ty o = 0 := by omega
            have m1 : ¬ turnF x.ty y.ty o = 2 := by omega
            have m2 : ¬ turnF y.ty z.ty o = 2 := by omega
            rw [turn_zero px py] at n1
            rw [turn_zero py pz] at n2
            rw [turn_two px py] at m1
            rw [turn_two py pz] at m2
            have s1 : SubB y.ty x.ty = true := by
              cases hs : SubB y.ty x.ty
              · exact absurd ⟨n1, .inr hs⟩ m1
              · rfl
            have s2 : SubB z.ty y.ty = true := by
              cases hs : SubB z.ty y.ty
              · exact absurd ⟨n2, .inr hs⟩ m2
              · rfl
            rcases ho with ho | ho
            · exact m1 ⟨n1, .inl ho⟩
            · rw [subB_trans pz py px s2 s1] at ho
              cases ho
theorem bump_none {a b c : List If} (ma : mayP a = true) (mb : mayP b = true) (mc : mayP c = true) (h1 : chgF a b = []) (h2 : chgF b c = []) : chgF a c = [] := by
  apply List.eq_nil_iff_forall_not_mem.2
  rintro ⟨k, m, n, o⟩ hc
  obtain ⟨hn, hk, h0⟩ := chg_mem.1 hc
  simp only at hn hk h0
  have PA := fun x => look_plain ma (m := m) (n := n) (o := o) (x := x)
  have PB := fun x => look_plain mb (m := m) (n := n) (o := o) (x := x)
  have PC := fun x => look_plain mc (m := m) (n := n) (o := o) (x := x)
  have b1 := @some_at a b m n o
  have b2 := @some_at b c m n o
  rw [h1] at b1
  rw [h2] at b2
  generalize look a m o n = fa at hn hk PA b1
  generalize look b m o n = fb at PB b1 b2
  generalize look c m o n = fc at hn hk PC b2
  cases fa with
  | none =>
    cases fc with
    | none => simp at hn
    | some z =>
      cases fb with
      | none => exact b2 (k := 4) (.inr rfl) rfl (by decide) rfl
      | some y => exact b1 (k := 4) (.inr rfl) rfl (by decide) rfl
  | some x =>
    have px := PA x rfl
    cases fb with
    | none => exact b1 (k := 1) (.inl rfl) rfl (by decide) rfl
    | some y =>
      have py := PB y rfl
      cases fc with
      | none => exact b2 (k := 1) (.inl rfl) rfl (by decide) rfl
      | some z =>
        have pz := PC z rfl
        have g1 := @b1 (turnF x.ty y.ty o) (.inl rfl) rfl
        have g2 := @b2 (turnF y.ty z.ty o) (.inl rfl) rfl
        have e1 : turnF x.ty y.ty o = 0 := by
          rcases turn_cases x.ty y.ty o with e | e | e
          · exact e
          · exact absurd rfl (g1 (by omega))
          · exact absurd rfl (g1 (by omega))
        have e2 : turnF y.ty z.ty o = 0 := by
          rcases turn_cases y.ty z.ty o with e | e | e
          · exact e
          · exact absurd rfl (g2 (by omega))
          · exact absurd rfl (g2 (by omega))
        rw [turn_zero px py] at e1
        rw [turn_zero py pz] at e2
        simp only [kindO] at hk
        rw [(turn_zero px pz).2 (e1.trans e2)] at hk
        omega
theorem bump_trans {a b c : List If} (ma : mayP a = true) (mb : mayP b = true) (mc : mayP c = true) : ofF (chgF a c) ≤ ofF (chgF a b) ∨ ofF (chgF a c) ≤ ofF (chgF b c) := by
  rcases of_range (chgF a c) with h | h | h
  · have := of_range (chgF a b); omega
  · by_cases h1 : chgF a b = []
    · by_cases h2 : chgF b c = []
      · rw [bump_none ma mb mc h1 h2] at h
        cases h
      · have := of_range (chgF b c)
        have h3 : ¬ ofF (chgF b c) = 1 := fun e => h2 (of_one.1 e)
        omega
    · have := of_range (chgF a b)
      have h3 : ¬ ofF (chgF a b) = 1 := fun e => h1 (of_one.1 e)
      omega
  · rcases bump_big ma mb mc h with e | e <;> omega
theorem bump_self {a : List If} (ma : mayP a = true) : ofF (chgF a a) = 1 := by
  rw [of_one]
  apply List.eq_nil_iff_forall_not_mem.2
  rintro ⟨k, m, n, o⟩ hc
  obtain ⟨hn, hk, h0⟩ := chg_mem.1 hc
  simp only at hn hk h0
  cases hl : look a m o n with
  | none => rw [hl] at hn; simp at hn
  | some x =>
    rw [hl] at hk
    simp only [kindO] at hk
    rw [(turn_zero (look_plain ma hl) (look_plain ma hl)).2 rfl] at hk
    omega
end Go.Proofs.YtbffijiecbfpnaaGreatDoor
namespace Go.Proofs.YtbffijiecbfpnaaGreatDoor
open Go.RowKit
set_option linter.unusedSimpArgs false
set_option linter.unusedVariables false
/-- what a client uses: of an interface, a change's name, its type there -/
structure Brk where
  x : If
  c : Chg
  t : Ty
def bigC (l : List Chg) : Option Chg := l.find? bigB
def brkF (a b : List If) : Option Brk := (bigC (chgF a b)).map fun c => ⟨(firstIface a c.mod).getD zIf, c, ((look a c.mod c.ofType c.name).getD zNm).ty⟩
theorem big_had {a b : List If} {c : Chg} (h : bigC (chgF a b) = some c) : (c.kind = 1 ∨ c.kind = 2) ∧ ∃ x n, firstIface a c.mod = some x ∧ firstNamed (selF x c.ofType) c.name = some n ∧ look a c.mod c.ofType c.name = some n := by
  have hm := List.mem_of_find?_eq_some h
  have hb : bigB c = true := List.find?_some h
  have hk : c.kind = 1 ∨ c.kind = 2 := by simpa [bigB] using hb
  obtain ⟨-, hkk, -⟩ := chg_mem.1 hm
  refine ⟨hk, ?_⟩
  cases hl : look a c.mod c.ofType c.name with
  | none => rw [hl] at hkk; simp only [kindO] at hkk; omega
  | some n =>
    have hmod := look_mod (l := a) (m := c.mod) (n := c.name) (o := c.ofType) (by rw [hl]; rfl)
    rw [firstIface_mem] at hmod
    obtain ⟨x, hx⟩ := Option.isSome_iff_exists.1 hmod
    refine ⟨x, n, hx, ?_, rfl⟩
    rw [look, hx] at hl
    exact hl
theorem bigC_hit {l : List Chg} {k : Nat} (hk : k < l.length) (h : ∀ i (h : i < k), bigB (l[i]'(by omega)) = false) (h2 : bigB l[k] = true) : bigC l = some l[k] := find_first hk h h2
theorem bigC_miss {l : List Chg} (h : ∀ i (h : i < l.length), bigB l[i] = false) : bigC l = none := find_none' h
end Go.Proofs.YtbffijiecbfpnaaGreatDoor
namespace Go.Proofs.YtbffijiecbfpnaaGreatDoor
open Go.RowKit
set_option linter.unusedSimpArgs false
set_option linter.unusedVariables false
def bigI (l : List Chg) : Int := match l.findIdx? bigB with
  | some i => (i : Nat)
  | none => -1
theorem bigI_hit {l : List Chg} {k : Nat} (hk : k < l.length) (h : ∀ i (h : i < l.length), i < k → bigB l[i] = false) (h2 : bigB l[k] = true) : bigI l = (k : Nat) := by
  have : l.findIdx? bigB = some k := by
    rw [List.findIdx?_eq_some_iff_getElem]
    exact ⟨hk, h2, fun j hj => by simp [h j (by omega) hj]⟩
  rw [bigI, this]
theorem bigI_miss {l : List Chg} (h : ∀ i (h : i < l.length), bigB l[i] = false) : bigI l = -1 := by
  have : l.findIdx? bigB = none := by
    rw [List.findIdx?_eq_none_iff]
    intro x hx
    obtain ⟨i, hi, rfl⟩ := List.getElem_of_mem hx
    exact h i hi
  rw [bigI, this]
set_option maxHeartbeats 1000000 in
theorem big_c (k : Int) (m n : ByteArray) (o : Bool) (w : World) : Calls Tryz.prog 14 #[.agg #[.int .i64 k, .string m, .string n, .bool o]] w fun e w' => e = .returned (.bool (bigB ⟨k, m, n, o⟩)) ∧ Below w.heap.size w w' := by
  obtain ⟨r, hr⟩ : ∃ r, bigB ⟨k, m, n, o⟩ = r := ⟨_, rfl⟩
  rw [hr]
  have hr' : (k == 1 || k == 2) = r := hr
  clear hr
  have hb := (Below.refl w.heap.size w).alloc (Nat.le_refl _) (.cells #[.int .i64 k, .string m, .string n, .bool o] 55)
  have HB := Lib.hid hb
  clear hb
  by_cases e1 : k = 1
  · subst e1
    obtain rfl : r = true := by rw [← hr']; rfl
    go_enter Tryz.func14, Tryz.ntmps14
    go_wp2_with fail
    go_ret
    exact ⟨rfl, HB.out⟩
  · by_cases e2 : k = 2
    · subst e2
      obtain rfl : r = true := by rw [← hr']; rfl
      have n1 : ((2 : Int) == 1) = false := by decide
      go_enter Tryz.func14, Tryz.ntmps14
      go_wp2_with fail
      go_ret
      exact ⟨rfl, HB.out⟩
    · obtain rfl : r = false := by rw [← hr']; simp [e1, e2]
      have n1 : (k == 1) = false := by simp [e1]
      have n2 : (k == 2) = false := by simp [e2]
      go_enter Tryz.func14, Tryz.ntmps14
      go_wp2_with fail
      go_ret
      exact ⟨rfl, HB.out⟩
set_option maxRecDepth 100000 in
set_option maxHeartbeats 4000000 in
theorem idxChg_c (l : List Chg) (v : Value) (w : World) (h : ChgAt w v l) (hl : l.length ≤ 2000000) :
    Calls Tryz.prog 13 #[v, .func (.func 14) #[] #[]] w fun e w' => e = .returned (.int .i64 (bigI l)) ∧ Below w.heap.size w w' := by
  obtain ⟨q, hq⟩ : ∃ q, bigI l = q := ⟨_, rfl⟩
  rw [hq]
  have HQ := Lib.hid hq
  obtain ⟨pp, cap, rfl, hc⟩ := h
  have HC := Lib.hid hc
  clear hc hq
  go_enter Tryz.func13, Tryz.ntmps13
  go_wp2
  go_loopw [8] (fun i w1 => ∃ k : Nat, k ≤ l.length ∧ i = .int .i64 k ∧ Below w.heap.size w w1 ∧ ∀ i (h : i < l.length), i < k → bigB l[i] = false) (fun i _ => l.length - (intOf i).toNat)
  case atStart => exact ⟨0, Nat.zero_le _, rfl, Below.refl _ _, fun i _ hi => absurd hi (by omega)⟩
  case round =>
    obtain ⟨k, hk, rfl, hacc, hall⟩ := hrel
    have HA := Lib.hid hall
    have HB := Lib.hid hacc
    clear hall hacc
    by_cases hlt : k < l.length
    · obtain ⟨b, o, rfl, lb, g⟩ := HC.out (by omega)
      obtain ⟨x, hx⟩ : ∃ x, l[k] = x := ⟨_, rfl⟩
      have c0 := g k hlt 0 (by decide)
      have c1 := g k hlt 1 (by decide)
      have c2 := g k hlt 2 (by decide)
      have c3 := g k hlt 3 (by decide)
      rw [hx, ← HB.out.cell (p := ⟨b, _, none⟩) lb] at c0 c1 c2 c3
      simp [Chg.cells] at c0 c1 c2 c3
      have hltI : (k : Int) < (l.length : Int) := by omega
      have lb2 := Nat.lt_of_lt_of_le lb HB.out.size
      have HX := Lib.hid hx
      clear hx g
      go_wp2_with fail
      have hcall := big_c x.kind x.mod x.name x.ofType wr
      refine hcall.mono ?_
      clear hcall
      rintro e w1 ⟨rfl, hb1⟩
      have HB1 := Lib.hid (HB.out.trans (hb1.mono HB.out.size))
      clear hb1
      obtain ⟨t, ht⟩ : ∃ t, bigB ⟨x.kind, x.mod, x.name, x.ofType⟩ = t := ⟨_, rfl⟩
      rw [ht]
      have HT := Lib.hid ht
      clear ht
      cases t
      · go_wp2_with fail
        exact ⟨⟨k + 1, by omega, by go_num, HB1.out, fun i hi hik => by
          by_cases e : i = k
          · subst e; rw [HX.out]; exact HT.out
          · exact HA.out i hi (by omega)⟩, by simp [intOf]; omega⟩
      · have hr := HQ.out.symm.trans (bigI_hit hlt HA.out (by rw [HX.out]; exact HT.out))
        subst hr
        go_wp2_with fail
        go_ret
        exact ⟨rfl, HB1.out⟩
    · obtain rfl : k = l.length := by omega
      have hltI : ¬ (l.length : Int) < (l.length : Int) := by omega
      have hr := HQ.out.symm.trans (bigI_miss fun i hi => HA.out i hi hi)
      subst hr
      go_wp2_with fail
      go_ret
      exact ⟨rfl, HB.out⟩
set_option maxHeartbeats 1000000 in
theorem isNamed_c (nm : ByteArray) (a : Int) (p : ByteArray) (b : Int) (m n : ByteArray) (na : Option Addr) (nl nc : Nat) (sa : Option Addr) (sl sc : Nat) (s : ByteArray) (pc : Nat) (w : World) (hc : w.cell? ⟨pc, 2, none⟩ = some (.string s)) (hpc : pc < w.heap.size) :
    Calls Tryz.prog 33 #[.agg #[.string nm, .int .i64 a, .string p, .int .i64 b, .string m, .string n, .slice na nl nc, .slice sa sl sc], .pointer (some ⟨pc, 0, none⟩)] w fun e w' => e = .returned (.bool (nm.toList == s.toList)) ∧ Below w.heap.size w w' := by
  have hc2 : (w.alloc (.cells #[.string nm, .int .i64 a, .string p, .int .i64 b, .string m, .string n, .slice na nl nc, .slice sa sl sc] 43)).cell? ⟨pc, 2, none⟩ = some (.string s) := (World.cell?_alloc_lt _ _ _ hpc).trans hc
  have hb := (Below.refl w.heap.size w).alloc (Nat.le_refl _) (.cells #[.string nm, .int .i64 a, .string p, .int .i64 b, .string m, .string n, .slice na nl nc, .slice sa sl sc] 43)
  have HB := Lib.hid hb
  clear hb
  go_enter Tryz.func33, Tryz.ntmps33
  go_wp2_with fail
  go_ret
  exact ⟨rfl, HB.out⟩
set_option maxRecDepth 100000 in
set_option maxHeartbeats 4000000 in
theorem idxNamed_c (A : Option Addr) (c B : Nat) (l : List Nm) (s : ByteArray) (pc : Nat) (w : World) (h1 : NmsAt w B A l) (hB : B ≤ w.heap.size) (hl : l.length ≤ 1000) (hc : w.cell? ⟨pc, 2, none⟩ = some (.string s)) (hpc : pc < w.heap.size) :
    Calls Tryz.prog 32 #[.slice A l.length c, .func (.func 33) #[] #[.pointer (some ⟨pc, 0, none⟩)]] w fun e w' => e = .returned (.int .i64 (ofN l s)) ∧ Below w.heap.size w w' := by
  obtain ⟨q, hq⟩ : ∃ q, ofN l s = q := ⟨_, rfl⟩
  rw [hq]
  have HQ := Lib.hid hq
  have H1 := Lib.hid h1
  have HC := Lib.hid hc
  clear h1 hq hc
  go_enter Tryz.func32, Tryz.ntmps32
  go_wp2
  go_loopw [8] (fun i w1 => ∃ k : Nat, k ≤ l.length ∧ i = .int .i64 k ∧ Below w.heap.size w w1 ∧ ∀ i (h : i < l.length), i < k → (l[i].name.toList == s.toList) = false) (fun i _ => l.length - (intOf i).toNat)
  case atStart => exact ⟨0, Nat.zero_le _, rfl, Below.refl _ _, fun i _ hi => absurd hi (by omega)⟩
  case round =>
    obtain ⟨k, hk, rfl, hacc, hall⟩ := hrel
    have HA := Lib.hid hall
    have HB := Lib.hid hacc
    clear hall hacc
    by_cases hlt : k < l.length
    · have hltI : (k : Int) < (l.length : Int) := by omega
      obtain ⟨x, hx⟩ : ∃ x, l[k] = x := ⟨_, rfl⟩
      obtain ⟨hns, b, o, na, nc, sa, sc, rfl, hbB, hty, c0, c1, c2, c3, c4, c5, c6, c7⟩ := (H1.out.under (HB.out.mono hB)).elem hlt hx
      have hbw : b < wr.heap.size := by have := HB.out.size; omega
      have HX := Lib.hid hx
      clear hx hty
      go_wp2_with fail
      have hcall := isNamed_c x.name x.ty.kind x.ty.pkg x.ty.major x.ty.mod x.ty.name na x.ty.names.length nc sa x.ty.subs.length sc s pc wr ((HB.out.cell (p := ⟨pc, _, none⟩) hpc).trans HC.out) (Nat.lt_of_lt_of_le hpc HB.out.size)
      refine hcall.mono ?_
      clear hcall
      rintro e w1 ⟨rfl, hb1⟩
      have HB1 := Lib.hid (HB.out.trans (hb1.mono HB.out.size))
      clear hb1
      obtain ⟨t, ht⟩ : ∃ t, (x.name.toList == s.toList) = t := ⟨_, rfl⟩
      rw [ht]
      have HT := Lib.hid ht
      clear ht
      cases t
      · go_wp2_with fail
        exact ⟨⟨k + 1, by omega, by go_num, HB1.out, fun i hi hik => by
          by_cases e : i = k
          · subst e; rw [HX.out]; exact HT.out
          · exact HA.out i hi (by omega)⟩, by simp [intOf]; omega⟩
      · have hr := HQ.out.symm.trans (ofN_hit hlt HA.out (by rw [HX.out]; exact HT.out))
        subst hr
        go_wp2_with fail
        go_ret
        exact ⟨rfl, HB1.out⟩
    · obtain rfl : k = l.length := by omega
      have hltI : ¬ (l.length : Int) < (l.length : Int) := by omega
      have hr := HQ.out.symm.trans (ofN_miss fun i hi => HA.out i hi hi)
      subst hr
      go_wp2_with fail
      go_ret
      exact ⟨rfl, HB.out⟩
end Go.Proofs.YtbffijiecbfpnaaGreatDoor
namespace Go.Proofs.YtbffijiecbfpnaaGreatDoor
open Go.RowKit
set_option linter.unusedSimpArgs false
set_option linter.unusedVariables false
theorem threeW (w : World) (C D E : Array Value) (S T U : TypeId) : Blk (((w.alloc (.cells C S)).alloc (.cells D T)).alloc (.cells E U)) w.heap.size C S ∧ Blk (((w.alloc (.cells C S)).alloc (.cells D T)).alloc (.cells E U)) (w.heap.size + 1) D T ∧ Blk (((w.alloc (.cells C S)).alloc (.cells D T)).alloc (.cells E U)) (w.heap.size + 1 + 1) E U ∧
    (((w.alloc (.cells C S)).alloc (.cells D T)).alloc (.cells E U)).heap.size = w.heap.size + 1 + 1 + 1 ∧ Below w.heap.size w (((w.alloc (.cells C S)).alloc (.cells D T)).alloc (.cells E U)) := by
  have z1 : (w.alloc (.cells C S)).heap.size = w.heap.size + 1 := by simp
  have z2 : ((w.alloc (.cells C S)).alloc (.cells D T)).heap.size = w.heap.size + 1 + 1 := by simp
  have b1 := Blk.new (w.alloc (.cells C S)) D T
  have b2 := Blk.new ((w.alloc (.cells C S)).alloc (.cells D T)) E U
  rw [z1] at b1
  rw [z2] at b2
  exact ⟨((Blk.new w C S).alloc _).alloc _, b1.alloc _, b2, by simp, (((Below.refl w.heap.size w).alloc (Nat.le_refl _) _).alloc (by simp) _).alloc (by simp; omega) _⟩
theorem cellsC {w : World} {g : Nat} {T : TypeId} {x0 x1 x2 x3 : Value} (h : Blk w g #[x0, x1, x2, x3] T) :
    w.cell? ⟨g, 0, none⟩ = some x0 ∧ w.cell? ⟨g, 1, none⟩ = some x1 ∧ w.cell? ⟨g, 2, none⟩ = some x2 ∧ w.cell? ⟨g, 3, none⟩ = some x3 := ⟨h.cell 0, h.cell 1, h.cell 2, h.cell 3⟩
theorem put5h_far {w : World} {g b : Nat} {C : Array Value} {T : TypeId} (v0 v1 v2 v3 v4 : Value) (h : Blk w b C T) (hne : b ≠ g) : Blk (((((w.setCell ⟨g, 0, none⟩ v0).setCell ⟨g, 1, none⟩ v1).setCell ⟨g, 2, none⟩ v2).setCell ⟨g, 3, none⟩ v3).setCell ⟨g, 4, none⟩ v4) b C T :=
  ((((h.far ⟨g, 0, none⟩ v0 hne).far ⟨g, 1, none⟩ v1 hne).far ⟨g, 2, none⟩ v2 hne).far ⟨g, 3, none⟩ v3 hne).far ⟨g, 4, none⟩ v4 hne
theorem put7h_full {w : World} {g : Nat} {T : TypeId} {a0 a1 a2 a3 a4 a5 a6 : Value} (v0 v1 v2 v3 v4 v5 v6 : Value) (h : Blk w g #[a0, a1, a2, a3, a4, a5, a6] T) :
    Blk (((((((w.setCell ⟨g, 0, none⟩ v0).setCell ⟨g, 1, none⟩ v1).setCell ⟨g, 2, none⟩ v2).setCell ⟨g, 3, none⟩ v3).setCell ⟨g, 4, none⟩ v4).setCell ⟨g, 5, none⟩ v5).setCell ⟨g, 6, none⟩ v6) g #[v0, v1, v2, v3, v4, v5, v6] T := by
  have := ((((((h.set 0 v0).set 1 v1).set 2 v2).set 3 v3).set 4 v4).set 5 v5).set 6 v6
  simpa using this
theorem put7h_bel {w w1 : World} {B g : Nat} (v0 v1 v2 v3 v4 v5 v6 : Value) (h : Below B w w1) (hg : B ≤ g) : Below B w (((((((w1.setCell ⟨g, 0, none⟩ v0).setCell ⟨g, 1, none⟩ v1).setCell ⟨g, 2, none⟩ v2).setCell ⟨g, 3, none⟩ v3).setCell ⟨g, 4, none⟩ v4).setCell ⟨g, 5, none⟩ v5).setCell ⟨g, 6, none⟩ v6) :=
  ((((((h.setCell (p := ⟨g, 0, none⟩) hg v0).setCell (p := ⟨g, 1, none⟩) hg v1).setCell (p := ⟨g, 2, none⟩) hg v2).setCell (p := ⟨g, 3, none⟩) hg v3).setCell (p := ⟨g, 4, none⟩) hg v4).setCell (p := ⟨g, 5, none⟩) hg v5).setCell (p := ⟨g, 6, none⟩) hg v6
theorem put7h_far {w : World} {g b : Nat} {C : Array Value} {T : TypeId} (v0 v1 v2 v3 v4 v5 v6 : Value) (h : Blk w b C T) (hne : b ≠ g) : Blk (((((((w.setCell ⟨g, 0, none⟩ v0).setCell ⟨g, 1, none⟩ v1).setCell ⟨g, 2, none⟩ v2).setCell ⟨g, 3, none⟩ v3).setCell ⟨g, 4, none⟩ v4).setCell ⟨g, 5, none⟩ v5).setCell ⟨g, 6, none⟩ v6) b C T :=
  ((((((h.far ⟨g, 0, none⟩ v0 hne).far ⟨g, 1, none⟩ v1 hne).far ⟨g, 2, none⟩ v2 hne).far ⟨g, 3, none⟩ v3 hne).far ⟨g, 4, none⟩ v4 hne).far ⟨g, 5, none⟩ v5 hne).far ⟨g, 6, none⟩ v6 hne
set_option maxRecDepth 100000 in
set_option maxHeartbeats 40000000 in
theorem had_c (A : Option Addr) (c B : Nat) (a : List If) (ck : Int) (cm cn : ByteArray) (co : Bool) (x : If) (n : Nm) (w : World) (h1 : IfsAt w B A a) (hB : B ≤ w.heap.size) (hl : a.length ≤ 1000) (hfew : a.all fewX = true) (hx : firstIface a cm = some x) (hn : firstNamed (selF x co) cn = some n) :
    Calls Tryz.prog 15 #[.slice A a.length c, .agg #[.int .i64 ck, .string cm, .string cn, .bool co]] w fun e w' => (∃ ta tc va vc na nc sa sc, e = .returned (.tuple #[.agg (ifCells x ta tc va vc), .agg (tyCells n.ty na nc sa sc)]) ∧ TyC w' B n.ty (tyCells n.ty na nc sa sc)) ∧ Below w.heap.size w w' := by
  have H1 := Lib.hid h1
  have HX := Lib.hid hx
  have HN := Lib.hid hn
  have HFEW := Lib.hid hfew
  clear h1 hx hn hfew
  go_enter Tryz.func15, Tryz.ntmps15
  go_upto_region 1 with fail
  obtain ⟨b1, b2, b3, hz, hbel⟩ := threeW w #[.int .i64 ck, .string cm, .string cn, .bool co] #[.string { data := #[] }, .int .i64 0, .string { data := #[] }, .slice none 0 0, .slice none 0 0] #[.int .i64 0, .string { data := #[] }, .int .i64 0, .string { data := #[] }, .string { data := #[] }, .slice none 0 0, .slice none 0 0] 55 46 41
  generalize (((w.alloc (.cells #[.int .i64 ck, .string cm, .string cn, .bool co] 55)).alloc (.cells #[.string { data := #[] }, .int .i64 0, .string { data := #[] }, .slice none 0 0, .slice none 0 0] 46)).alloc (.cells #[.int .i64 0, .string { data := #[] }, .int .i64 0, .string { data := #[] }, .string { data := #[] }, .slice none 0 0, .slice none 0 0] 41)) = W at b1 b2 b3 hz hbel ⊢
  have B1 := Lib.hid b1
  have B2 := Lib.hid b2
  have B3 := Lib.hid b3
  have BEL := Lib.hid hbel
  have HZ := Lib.hid hz
  have HW1 := Lib.hid (H1.out.under (hbel.mono hB))
  have hBW : B ≤ W.heap.size := Nat.le_trans hB hbel.size
  clear b1 b2 b3 hz hbel H1
  go_wp2_with fail
  go_loopw [12] (fun i wk => ∃ k : Nat, i = .int .i64 k ∧ k ≤ a.length ∧ Below W.heap.size W wk ∧ ∀ i (h : i < a.length), i < k → (a[i].mod.toList == cm.toList) = false) (fun i _ => a.length - (intOf i).toNat)
  case atStart => exact ⟨0, rfl, Nat.zero_le _, Below.refl _ _, fun i _ hi => absurd hi (by omega)⟩
  case round =>
    rename World => wk
    obtain ⟨k, rfl, hk, hb, hall⟩ := hrel
    have HB := Lib.hid hb
    have HA := Lib.hid hall
    clear hb hall
    by_cases hlt : k < a.length
    rotate_left
    · exfalso
      have := find_none' (p := fun x => x.mod.toList == cm.toList) (l := a) (fun i hi => HA.out i hi (by omega))
      have h2 := HX.out
      rw [firstIface, this] at h2
      cases h2
    have hltI : (k : Int) < (a.length : Int) := by omega
    obtain ⟨y, hy⟩ : ∃ y, a[k] = y := ⟨_, rfl⟩
    obtain ⟨-, b, o, ta, tc, va, vc, rfl, hbB, hT, hV, htc, hvc, c0, c1, c2, c3, c4⟩ := (HW1.out.under (HB.out.mono hBW)).elem hlt hy
    have hbw : b < wk.heap.size := by have := HB.out.size; omega
    have hBk : B ≤ wk.heap.size := Nat.le_trans hBW HB.out.size
    have hle : (selF y co).length ≤ 200 := by
      have := List.all_eq_true.1 HFEW.out y (by rw [← hy]; exact List.getElem_mem hlt)
      simp only [fewX, Bool.and_eq_true, decide_eq_true_eq] at this
      rw [selF]; split
      · exact this.1
      · exact this.2.1
    have HT := Lib.hid hT
    have HV := Lib.hid hV
    have HY := Lib.hid hy
    have HLE := Lib.hid hle
    clear hy hT hV hle
    go_upto_region 4 with fail
    have b7 := Blk.new wk #[.string y.pkg, .int .i64 y.major, .string y.mod, .slice ta y.types.length tc, .slice va y.vals.length vc] 46
    have hb4 := HB.out.alloc HB.out.size (.cells #[.string y.pkg, .int .i64 y.major, .string y.mod, .slice ta y.types.length tc, .slice va y.vals.length vc] 46)
    have hT4 := HT.out.alloc hBk (.cells #[.string y.pkg, .int .i64 y.major, .string y.mod, .slice ta y.types.length tc, .slice va y.vals.length vc] 46)
    have hV4 := HV.out.alloc hBk (.cells #[.string y.pkg, .int .i64 y.major, .string y.mod, .slice ta y.types.length tc, .slice va y.vals.length vc] 46)
    have hb4k : Below wk.heap.size wk (wk.alloc (.cells #[.string y.pkg, .int .i64 y.major, .string y.mod, .slice ta y.types.length tc, .slice va y.vals.length vc] 46)) := (Below.refl _ _).alloc (Nat.le_refl _) _
    generalize (wk.alloc (.cells #[.string y.pkg, .int .i64 y.major, .string y.mod, .slice ta y.types.length tc, .slice va y.vals.length vc] 46)) = w4 at b7 hb4 hT4 hV4 hb4k ⊢
    generalize wk.heap.size = g7 at b7 hb4k ⊢
    have B7 := Lib.hid b7
    have HB4 := Lib.hid hb4
    have HT4 := Lib.hid hT4
    have HV4 := Lib.hid hV4
    have hB4 : B ≤ w4.heap.size := Nat.le_trans hBW hb4.size
    clear hT4 hV4 HT HV hb4k c0 c1 c2 c3 c4 hbw hBk
    obtain ⟨k0, k1, k2, k3, k4⟩ := cellsN5 b7
    have l7 := b7.lt
    obtain ⟨p0, p1, p2, p3⟩ := cellsC (B1.out.under hb4 B1.out.lt)
    have lp := (B1.out.under hb4 B1.out.lt).lt
    clear b7 hb4
    go_upto_region 5 with fail
    go_upto_if 19 with fail
    go_cut [8] (fun s8 wx => ∃ oa oc, s8 = .slice oa (selF y co).length oc ∧ NmsAt w4 B oa (selF y co) ∧ wx = w4)
    case first =>
      cases co
      · go_wp2_with fail
        go_meet
        exact ⟨va, vc, rfl, HV4.out, rfl⟩
      · go_wp2_with fail
        go_meet
        exact ⟨ta, tc, rfl, HT4.out, rfl⟩
    case rest =>
    obtain ⟨oa, oc, rfl, hO, rfl⟩ := hcut
    have HO := Lib.hid hO
    clear hO
    have HIX := Lib.hid (idxNamed_c oa oc B (selF y co) cn w.heap.size _ HO.out hB4 (by have := HLE.out; omega) p2 lp)
    clear k0 k1 k2 k3 k4 l7 p0 p1 p2 p3 lp
    go_upto_region 8 with (go_at_call 32; refine HIX.out.mono ?_; rintro e w5 ⟨rfl, hb⟩; have HB5 := Lib.hid (HB4.out.trans (hb.mono HB4.out.size)); have B75 := Lib.hid (B7.out.under hb B7.out.lt); have HO5 := Lib.hid (HO.out.under (hb.mono hB4)); clear hb)
    have hB5 : B ≤ w5.heap.size := Nat.le_trans hBW HB5.out.size
    obtain ⟨k0, k1, k2, k3, k4⟩ := cellsN5 B75.out
    have l7 := B75.out.lt
    obtain ⟨p0, p1, p2, p3⟩ := cellsC (B1.out.under HB5.out B1.out.lt)
    have lp := (B1.out.under HB5.out B1.out.lt).lt
    obtain ⟨t, ht⟩ : ∃ t, (y.mod.toList == cm.toList) = t := ⟨_, rfl⟩
    have HMT := Lib.hid ht
    clear HIX HO HB4 B7 HT4 HV4
    cases t
    · go_wp2_with fail
      exact ⟨⟨k + 1, by go_num, by omega, HB5.out, fun i hi hik => by
        by_cases e : i = k
        · subst e; rw [HY.out]; exact HMT.out
        · exact HA.out i hi (by omega)⟩, by simp [intOf]; omega⟩
    have hyx : y = x := by
      have h2 := find_first (p := fun x => x.mod.toList == cm.toList) hlt (fun i hi => HA.out i (by omega) hi) (by rw [HY.out]; exact HMT.out)
      have h3 := HX.out
      rw [firstIface, h2, HY.out] at h3
      exact Option.some.inj h3
    subst hyx
    obtain ⟨j, hj, hjn, ej⟩ := ofN_some HN.out
    rw [ej]
    obtain ⟨-, bn, pn, na, nc, sa, sc, rfl, hbn, htn, -, e1, e2, e3, e4, e5, e6, e7⟩ := HO5.out.elem hj hjn
    have hbn5 : bn < w5.heap.size := by omega
    have hjI : (j : Int) < ((selF y co).length : Int) := by omega
    have hj0 : (0 : Int) ≤ (j : Int) := by omega
    have hge : ((j : Int) ≥ 0) := hj0
    have HTN := Lib.hid htn
    clear htn
    go_upto_region 9 with fail
    clear ht k0 k1 k2 k3 k4 l7 p0 p1 p2 p3 lp
    have D2 := Lib.hid (B2.out.under HB5.out B2.out.lt)
    have D3 := Lib.hid (B3.out.under HB5.out B3.out.lt)
    have q0 := D2.out.cell 0
    have q1 := D2.out.cell 1
    have q2 := D2.out.cell 2
    have q3 := D2.out.cell 3
    have q4 := D2.out.cell 4
    have f0 := D2.out.free 0
    have f1 := D2.out.free 1
    have f2 := D2.out.free 2
    have f3 := D2.out.free 3
    have f4 := D2.out.free 4
    have s0 := D3.out.cell 0
    have s1 := D3.out.cell 1
    have s2 := D3.out.cell 2
    have s3 := D3.out.cell 3
    have s4 := D3.out.cell 4
    have s5 := D3.out.cell 5
    have s6 := D3.out.cell 6
    have g0 := D3.out.free 0
    have g1 := D3.out.free 1
    have g2 := D3.out.free 2
    have g3 := D3.out.free 3
    have g4 := D3.out.free 4
    have g5 := D3.out.free 5
    have g6 := D3.out.free 6
    have ld2 := D2.out.lt
    have ld3 := D3.out.lt
    simp at q0 q1 q2 q3 q4 s0 s1 s2 s3 s4 s5 s6
    refine wp_region_until [(6, fun w' => Blk w' g7 #[.string y.pkg, .int .i64 y.major, .string y.mod, .slice ta y.types.length tc, .slice va y.vals.length vc] 46), (7, fun w' => w'.cell? ⟨bn, pn + j * 8 + 1, none⟩ = some (.int .i64 n.ty.kind) ∧ w'.cell? ⟨bn, pn + j * 8 + 2, none⟩ = some (.string n.ty.pkg) ∧ w'.cell? ⟨bn, pn + j * 8 + 3, none⟩ = some (.int .i64 n.ty.major) ∧ w'.cell? ⟨bn, pn + j * 8 + 4, none⟩ = some (.string n.ty.mod) ∧ w'.cell? ⟨bn, pn + j * 8 + 5, none⟩ = some (.string n.ty.name) ∧ w'.cell? ⟨bn, pn + j * 8 + 6, none⟩ = some (.slice na n.ty.names.length nc) ∧ w'.cell? ⟨bn, pn + j * 8 + 7, none⟩ = some (.slice sa n.ty.subs.length sc))] (by kernel_rfl) (Until.cons (fun _ => B75.out.drew) (Until.cons (fun _ => ⟨e1, e2, e3, e4, e5, e6, e7⟩) Until.nil)) (fun hU => ?_)
    refine AnyU.loadc (i := 0) (d := 6) [6] (Si := fun w' => Blk w' g7 #[.string y.pkg, .int .i64 y.major, .string y.mod, .slice ta y.types.length tc, .slice va y.vals.length vc] 46) (v := ?_) rfl (by kernel_rfl) (by kernel_rfl) (by kernel_rfl) (fun _ _ _ h => h) (by kernel_rfl) (by assumption) (by kernel_rfl) rfl (by simp) (by rfl) ?_ (fun hV => ?_)
    rotate_left 1
    · (intro wq hq; obtain ⟨u0, u1, u2, u3, u4⟩ := cellsN5 hq; go_simp; try with_reducible rfl)
    clear hU
    have hU := hV
    clear hV
    try simp only [Act.put, List.getElem_toArray, List.getElem_cons_zero, List.getElem_cons_succ, List.setIfInBounds_toArray, List.set_cons_zero, List.set_cons_succ]
    refine AnyU.take (i := 1) (v := ?_) rfl (by kernel_rfl) (by kernel_rfl) (by kernel_rfl) (fun _ _ _ h => h) (by kernel_rfl) (by assumption) (by rfl) ?_ (fun hV => ?_)
    rotate_left 1
    · (intro wq; go_simp; try with_reducible rfl)
    clear hU
    have hU := hV
    clear hV
    try simp only [Act.put, List.getElem_toArray, List.getElem_cons_zero, List.getElem_cons_succ, List.setIfInBounds_toArray, List.set_cons_zero, List.set_cons_succ]
    refine AnyU.take (i := 2) (v := ?_) rfl (by kernel_rfl) (by kernel_rfl) (by kernel_rfl) (fun _ _ _ h => h) (by kernel_rfl) (by assumption) (by rfl) ?_ (fun hV => ?_)
    rotate_left 1
    · (intro wq; go_simp; try with_reducible rfl)
    clear hU
    have hU := hV
    clear hV
    try simp only [Act.put, List.getElem_toArray, List.getElem_cons_zero, List.getElem_cons_succ, List.setIfInBounds_toArray, List.set_cons_zero, List.set_cons_succ]
    refine AnyU.take (i := 3) (v := ?_) rfl (by kernel_rfl) (by kernel_rfl) (by kernel_rfl) (fun _ _ _ h => h) (by kernel_rfl) (by assumption) (by rfl) ?_ (fun hV => ?_)
    rotate_left 1
    · (intro wq; go_simp; try with_reducible rfl)
    clear hU
    have hU := hV
    clear hV
    try simp only [Act.put, List.getElem_toArray, List.getElem_cons_zero, List.getElem_cons_succ, List.setIfInBounds_toArray, List.set_cons_zero, List.set_cons_succ]
    refine AnyU.take (i := 4) (v := ?_) rfl (by kernel_rfl) (by kernel_rfl) (by kernel_rfl) (fun _ _ _ h => h) (by kernel_rfl) (by assumption) (by rfl) ?_ (fun hV => ?_)
    rotate_left 1
    · (intro wq; go_simp; try with_reducible rfl)
    clear hU
    have hU := hV
    clear hV
    try simp only [Act.put, List.getElem_toArray, List.getElem_cons_zero, List.getElem_cons_succ, List.setIfInBounds_toArray, List.set_cons_zero, List.set_cons_succ]
    refine AnyU.loadc (i := 5) (d := 7) [7] (Si := fun w' => w'.cell? ⟨bn, pn + j * 8 + 1, none⟩ = some (.int .i64 n.ty.kind) ∧ w'.cell? ⟨bn, pn + j * 8 + 2, none⟩ = some (.string n.ty.pkg) ∧ w'.cell? ⟨bn, pn + j * 8 + 3, none⟩ = some (.int .i64 n.ty.major) ∧ w'.cell? ⟨bn, pn + j * 8 + 4, none⟩ = some (.string n.ty.mod) ∧ w'.cell? ⟨bn, pn + j * 8 + 5, none⟩ = some (.string n.ty.name) ∧ w'.cell? ⟨bn, pn + j * 8 + 6, none⟩ = some (.slice na n.ty.names.length nc) ∧ w'.cell? ⟨bn, pn + j * 8 + 7, none⟩ = some (.slice sa n.ty.subs.length sc)) (v := ?_) rfl (by kernel_rfl) (by kernel_rfl) (by kernel_rfl) (fun _ _ _ h => h) (by kernel_rfl) (by assumption) (by kernel_rfl) rfl (by simp) (by rfl) ?_ (fun hV => ?_)
    rotate_left 1
    · (intro wq hq; obtain ⟨u1, u2, u3, u4, u5, u6, u7⟩ := hq; go_simp; try with_reducible rfl)
    clear hU
    have hU := hV
    clear hV
    try simp only [Act.put, List.getElem_toArray, List.getElem_cons_zero, List.getElem_cons_succ, List.setIfInBounds_toArray, List.set_cons_zero, List.set_cons_succ]
    refine AnyU.ready1 (i := 6) (by kernel_rfl) (AnyU.one rfl fun K hK => ?_)
    go_simp
    have r1 := put5_full (.string y.pkg) (.int .i64 y.major) (.string y.mod) (.slice ta y.types.length tc) (.slice va y.vals.length vc) D2.out
    have r2 := put5_bel (.string y.pkg) (.int .i64 y.major) (.string y.mod) (.slice ta y.types.length tc) (.slice va y.vals.length vc) (Below.refl w.heap.size w5) (Nat.le_succ w.heap.size)
    have r3 := put5h_far (.string y.pkg) (.int .i64 y.major) (.string y.mod) (.slice ta y.types.length tc) (.slice va y.vals.length vc) D3.out (show w.heap.size + 1 + 1 ≠ w.heap.size + 1 by omega)
    generalize hX4 : ((((((w5.setCell ⟨w.heap.size + 1, 0, none⟩ (.string y.pkg)).setCell ⟨w.heap.size + 1, 1, none⟩ (.int .i64 y.major)).setCell ⟨w.heap.size + 1, 2, none⟩ (.string y.mod)).setCell ⟨w.heap.size + 1, 3, none⟩ (.slice ta y.types.length tc)).setCell ⟨w.heap.size + 1, 4, none⟩ (.slice va y.vals.length vc)).drew) = X4
    have r1 : Blk X4 (w.heap.size + 1) #[.string y.pkg, .int .i64 y.major, .string y.mod, .slice ta y.types.length tc, .slice va y.vals.length vc] 46 := by rw [← hX4]; exact r1
    have r2 : Below w.heap.size w5 X4 := by rw [← hX4]; exact r2.drew
    have r3 : Blk X4 (w.heap.size + 1 + 1) #[.int .i64 0, .string { data := #[] }, .int .i64 0, .string { data := #[] }, .string { data := #[] }, .slice none 0 0, .slice none 0 0] 41 := by rw [← hX4]; exact r3
    clear hX4
    have hbnw : bn < w.heap.size := by omega
    have e1 := (r2.cell (p := ⟨bn, _, none⟩) hbnw).trans e1
    have e2 := (r2.cell (p := ⟨bn, _, none⟩) hbnw).trans e2
    have e3 := (r2.cell (p := ⟨bn, _, none⟩) hbnw).trans e3
    have e4 := (r2.cell (p := ⟨bn, _, none⟩) hbnw).trans e4
    have e5 := (r2.cell (p := ⟨bn, _, none⟩) hbnw).trans e5
    have e6 := (r2.cell (p := ⟨bn, _, none⟩) hbnw).trans e6
    have e7 := (r2.cell (p := ⟨bn, _, none⟩) hbnw).trans e7
    have D3 := Lib.hid r3
    clear q0 q1 q2 q3 q4 s0 s1 s2 s3 s4 s5 s6 f0 f1 f2 f3 f4 g0 g1 g2 g3 g4 g5 g6 ld2 ld3
    have s0 := D3.out.cell 0
    have g0 := D3.out.free 0
    have s1 := D3.out.cell 1
    have g1 := D3.out.free 1
    have s2 := D3.out.cell 2
    have g2 := D3.out.free 2
    have s3 := D3.out.cell 3
    have g3 := D3.out.free 3
    have s4 := D3.out.cell 4
    have g4 := D3.out.free 4
    have s5 := D3.out.cell 5
    have g5 := D3.out.free 5
    have s6 := D3.out.cell 6
    have g6 := D3.out.free 6
    simp at s0 s1 s2 s3 s4 s5 s6
    have ld3 := D3.out.lt
    refine hK.out _ _ (Until.cons (fun h => absurd h (by decide)) (Until.cons (fun _ => ⟨e1, e2, e3, e4, e5, e6, e7⟩) Until.nil)) (fun hV => ?_)
    clear hK K
    clear hU
    have hU := hV
    clear hV
    try simp only [Act.put, List.getElem_toArray, List.getElem_cons_zero, List.getElem_cons_succ, List.setIfInBounds_toArray, List.set_cons_zero, List.set_cons_succ]
    refine AnyU.ready1 (i := 7) (by kernel_rfl) (AnyU.one rfl fun K hK => ?_)
    go_simp
    have t1 := put7h_full (.int .i64 n.ty.kind) (.string n.ty.pkg) (.int .i64 n.ty.major) (.string n.ty.mod) (.string n.ty.name) (.slice na n.ty.names.length nc) (.slice sa n.ty.subs.length sc) D3.out
    have t2 := put7h_bel (.int .i64 n.ty.kind) (.string n.ty.pkg) (.int .i64 n.ty.major) (.string n.ty.mod) (.string n.ty.name) (.slice na n.ty.names.length nc) (.slice sa n.ty.subs.length sc) r2 (show w.heap.size ≤ w.heap.size + 1 + 1 by omega)
    have t3 := put7h_far (.int .i64 n.ty.kind) (.string n.ty.pkg) (.int .i64 n.ty.major) (.string n.ty.mod) (.string n.ty.name) (.slice na n.ty.names.length nc) (.slice sa n.ty.subs.length sc) r1 (show w.heap.size + 1 ≠ w.heap.size + 1 + 1 by omega)
    generalize (((((((X4.setCell ⟨w.heap.size + 1 + 1, 0, none⟩ (.int .i64 n.ty.kind)).setCell ⟨w.heap.size + 1 + 1, 1, none⟩ (.string n.ty.pkg)).setCell ⟨w.heap.size + 1 + 1, 2, none⟩ (.int .i64 n.ty.major)).setCell ⟨w.heap.size + 1 + 1, 3, none⟩ (.string n.ty.mod)).setCell ⟨w.heap.size + 1 + 1, 4, none⟩ (.string n.ty.name)).setCell ⟨w.heap.size + 1 + 1, 5, none⟩ (.slice na n.ty.names.length nc)).setCell ⟨w.heap.size + 1 + 1, 6, none⟩ (.slice sa n.ty.subs.length sc)) = X5 at t1 t2 t3 ⊢
    refine hK.out _ _ (Until.off (by kernel_rfl)) (fun hV => ?_)
    clear hK K
    clear hU
    have hU := hV
    clear hV
    try simp only [Act.put, List.getElem_toArray, List.getElem_cons_zero, List.getElem_cons_succ, List.setIfInBounds_toArray, List.set_cons_zero, List.set_cons_succ]
    refine AnyU.done (by kernel_rfl) ?_
    clear hU
    clear s0 s1 s2 s3 s4 s5 s6 g0 g1 g2 g3 g4 g5 g6 ld3 e1 e2 e3 e4 e5 e6 e7
    have T1 := Lib.hid t1
    have T2 := Lib.hid t2
    have T3 := Lib.hid t3
    clear t1 t2 t3 r1 r2 r3
    go_wp2_with fail
    obtain ⟨r0, r1, r2, r3, r4⟩ := cellsN5 T3.out
    have u0 := T1.out.cell 0
    have u1 := T1.out.cell 1
    have u2 := T1.out.cell 2
    have u3 := T1.out.cell 3
    have u4 := T1.out.cell 4
    have u5 := T1.out.cell 5
    have u6 := T1.out.cell 6
    simp at u0 u1 u2 u3 u4 u5 u6
    refine bodyPost_ret (by simp [results, Tryz.results15, go_sem, r0, r1, r2, r3, r4, u0, u1, u2, u3, u4, u5, u6]; try rfl) rfl ?_
    exact ⟨⟨ta, tc, va, vc, na, nc, sa, sc, rfl, HTN.out.under (T2.out.mono hB)⟩, (BEL.out.trans (HB5.out.mono BEL.out.size)).trans T2.out⟩
end Go.Proofs.YtbffijiecbfpnaaGreatDoor
namespace Go.Proofs.YtbffijiecbfpnaaGreatDoor
open Go.RowKit
set_option linter.unusedSimpArgs false
set_option linter.unusedVariables false
/-- what is used, in memory: nothing, or one import and one line -/
def UAt (w : World) (v : Value) : Option Brk → Prop
  | none => v = .agg #[.slice none 0 0, .slice none 0 0]
  | some u => ∃ b1 b2 na nc sa sc, v = .agg #[.slice (some ⟨b1, 0, none⟩) 1 1, .slice (some ⟨b2, 0, none⟩) 1 1] ∧ Blk w b1 #[.string u.x.pkg, .int .i64 u.x.major, .string u.x.mod, .string { data := #[109] }] 63 ∧
      Blk w b2 #[.int .i64 (if u.c.ofType = true then 2 else 1), .string { data := #[109] }, .string u.c.name, .int .i64 u.t.kind, .string u.t.pkg, .int .i64 u.t.major, .string u.t.mod, .string u.t.name, .slice na u.t.names.length nc, .slice sa u.t.subs.length sc] 61 ∧ TyC w w.heap.size u.t (tyCells u.t na nc sa sc)
theorem UAt.under {w w' : World} {v : Value} {u : Option Brk} (h : UAt w v u) (hb : Below w.heap.size w w') : UAt w' v u := by
  cases u with
  | none => exact h
  | some u =>
    obtain ⟨b1, b2, na, nc, sa, sc, h1, h2, h3, h4⟩ := h
    exact ⟨b1, b2, na, nc, sa, sc, h1, h2.under hb h2.lt, h3.under hb h3.lt, (h4.under hb).mono hb.size⟩
theorem neq_errnilW (w : World) : (binOp BinOp.neq 30 (.iface 34 (.int .i64 1)) .nilIface).run Tryz.prog w = .ok (.bool true) w := by kernel_rfl
theorem put10h_full {w : World} {g : Nat} {T : TypeId} {a0 a1 a2 a3 a4 a5 a6 a7 a8 a9 : Value} (v0 v1 v2 v3 v4 v5 v6 v7 v8 v9 : Value) (h : Blk w g #[a0, a1, a2, a3, a4, a5, a6, a7, a8, a9] T) : Blk ((((((((((w.setCell ⟨g, 0, none⟩ v0).setCell ⟨g, 1, none⟩ v1).setCell ⟨g, 2, none⟩ v2).setCell ⟨g, 3, none⟩ v3).setCell ⟨g, 4, none⟩ v4).setCell ⟨g, 5, none⟩ v5).setCell ⟨g, 6, none⟩ v6).setCell ⟨g, 7, none⟩ v7).setCell ⟨g, 8, none⟩ v8).setCell ⟨g, 9, none⟩ v9) g #[v0, v1, v2, v3, v4, v5, v6, v7, v8, v9] T := by
  have := ((((((((((h.set 0 v0).set 1 v1).set 2 v2).set 3 v3).set 4 v4).set 5 v5).set 6 v6).set 7 v7).set 8 v8).set 9 v9)
  simpa using this
theorem put10h_bel {w w1 : World} {B g : Nat} (v0 v1 v2 v3 v4 v5 v6 v7 v8 v9 : Value) (h : Below B w w1) (hg : B ≤ g) : Below B w ((((((((((w1.setCell ⟨g, 0, none⟩ v0).setCell ⟨g, 1, none⟩ v1).setCell ⟨g, 2, none⟩ v2).setCell ⟨g, 3, none⟩ v3).setCell ⟨g, 4, none⟩ v4).setCell ⟨g, 5, none⟩ v5).setCell ⟨g, 6, none⟩ v6).setCell ⟨g, 7, none⟩ v7).setCell ⟨g, 8, none⟩ v8).setCell ⟨g, 9, none⟩ v9) :=
  ((((((((((h.setCell (p := ⟨g, 0, none⟩) hg v0).setCell (p := ⟨g, 1, none⟩) hg v1).setCell (p := ⟨g, 2, none⟩) hg v2).setCell (p := ⟨g, 3, none⟩) hg v3).setCell (p := ⟨g, 4, none⟩) hg v4).setCell (p := ⟨g, 5, none⟩) hg v5).setCell (p := ⟨g, 6, none⟩) hg v6).setCell (p := ⟨g, 7, none⟩) hg v7).setCell (p := ⟨g, 8, none⟩) hg v8).setCell (p := ⟨g, 9, none⟩) hg v9)
theorem set_heap (w : World) (g o : Nat) (v : Value) {b : Nat} (h : b ≠ g) : (w.setCell ⟨g, o, none⟩ v).heap[b]? = w.heap[b]? := Below.heap_setCell w ⟨g, o, none⟩ v b h
theorem set_size (w : World) (g o : Nat) (v : Value) : (w.setCell ⟨g, o, none⟩ v).heap.size = w.heap.size := by simp [World.setCell]
theorem put10h_heap (v0 v1 v2 v3 v4 v5 v6 v7 v8 v9 : Value) {w : World} {g b : Nat} (h : b ≠ g) : ((((((((((w.setCell ⟨g, 0, none⟩ v0).setCell ⟨g, 1, none⟩ v1).setCell ⟨g, 2, none⟩ v2).setCell ⟨g, 3, none⟩ v3).setCell ⟨g, 4, none⟩ v4).setCell ⟨g, 5, none⟩ v5).setCell ⟨g, 6, none⟩ v6).setCell ⟨g, 7, none⟩ v7).setCell ⟨g, 8, none⟩ v8).setCell ⟨g, 9, none⟩ v9).heap[b]? = w.heap[b]? := by
  rw [set_heap _ _ _ _ h, set_heap _ _ _ _ h, set_heap _ _ _ _ h, set_heap _ _ _ _ h, set_heap _ _ _ _ h, set_heap _ _ _ _ h, set_heap _ _ _ _ h, set_heap _ _ _ _ h, set_heap _ _ _ _ h, set_heap _ _ _ _ h]
theorem put10h_size (v0 v1 v2 v3 v4 v5 v6 v7 v8 v9 : Value) {w : World} {g : Nat} : ((((((((((w.setCell ⟨g, 0, none⟩ v0).setCell ⟨g, 1, none⟩ v1).setCell ⟨g, 2, none⟩ v2).setCell ⟨g, 3, none⟩ v3).setCell ⟨g, 4, none⟩ v4).setCell ⟨g, 5, none⟩ v5).setCell ⟨g, 6, none⟩ v6).setCell ⟨g, 7, none⟩ v7).setCell ⟨g, 8, none⟩ v8).setCell ⟨g, 9, none⟩ v9).heap.size = w.heap.size := by
  rw [set_size, set_size, set_size, set_size, set_size, set_size, set_size, set_size, set_size, set_size]
theorem twoW (w : World) (C D : Array Value) (S T : TypeId) : Blk ((w.alloc (.cells C S)).alloc (.cells D T)) w.heap.size C S ∧ Blk ((w.alloc (.cells C S)).alloc (.cells D T)) (w.heap.size + 1) D T ∧
    ((w.alloc (.cells C S)).alloc (.cells D T)).heap.size = w.heap.size + 1 + 1 ∧ Below w.heap.size w ((w.alloc (.cells C S)).alloc (.cells D T)) := by
  have z1 : (w.alloc (.cells C S)).heap.size = w.heap.size + 1 := by simp
  have b1 := Blk.new (w.alloc (.cells C S)) D T
  rw [z1] at b1
  exact ⟨(Blk.new w C S).alloc _, b1, by simp, ((Below.refl w.heap.size w).alloc (Nat.le_refl _) _).alloc (by simp) _⟩
theorem bigI_some {l : List Chg} {c : Chg} (h : bigC l = some c) : ∃ k : Nat, ∃ hk : k < l.length, l[k] = c ∧ bigI l = (k : Nat) := by
  obtain ⟨hx, i, hi, he, hall⟩ := List.find?_eq_some_iff_getElem.1 h
  refine ⟨i, hi, he, bigI_hit hi (fun j hj hji => ?_) (by rw [he]; exact hx)⟩
  have := hall j hji
  simpa using this
theorem bigI_none {l : List Chg} (h : bigC l = none) : bigI l = -1 := by
  refine bigI_miss fun i hi => ?_
  have := List.find?_eq_none.1 h l[i] (List.getElem_mem hi)
  simpa using this
set_option maxRecDepth 100000 in
set_option maxHeartbeats 8000000 in
theorem brkNo_c (A A' : Option Addr) (c c' B : Nat) (a b : List If) (w : World) (h1 : IfsAt w B A a) (h2 : IfsAt w B A' b) (hB : B ≤ w.heap.size) (hl : a.length ≤ 1000) (hl' : b.length ≤ 1000) (hf : fairB a b = false) :
    Calls Tryz.prog 6 #[.slice A a.length c, .slice A' b.length c'] w fun e w' => e = .returned (.tuple #[.agg #[.slice none 0 0, .slice none 0 0], .bool false, .iface 34 (.int .i64 1)]) ∧ Below w.heap.size w w' := by
  have hW := Blk.new w #[.slice none 0 0, .slice none 0 0] 28
  have hbW : Below w.heap.size w (w.alloc (.cells #[.slice none 0 0, .slice none 0 0] 28)) := (Below.refl _ _).alloc (Nat.le_refl _) _
  have HC := Lib.hid (unfair_c A A' c c' B a b (w.alloc (.cells #[.slice none 0 0, .slice none 0 0] 28)) (h1.alloc hB _) (h2.alloc hB _) (Nat.le_trans hB hbW.size) hl hl' hf)
  have ne := neq_errnilW
  clear h1 h2 hf
  have HW := Lib.hid hW
  have HB := Lib.hid hbW
  clear hW hbW
  go_enter Tryz.func6, Tryz.ntmps6
  go_upto_region 2 with (go_at_call 12; refine HC.out.mono ?_; rintro e w1 ⟨rfl, hb⟩; have B1 := Lib.hid (HB.out.trans (hb.mono HB.out.size)); have D1 := Lib.hid (HW.out.under hb HW.out.lt); clear hb)
  have q0 := D1.out.cell 0
  have q1 := D1.out.cell 1
  have f0 := D1.out.free 0
  have f1 := D1.out.free 1
  have lq := D1.out.lt
  simp at q0 q1
  go_wp2_with fail
  refine bodyPost_ret (by simp [results, Tryz.results6, go_sem, q0, q1, lq]; try rfl) rfl ?_
  exact ⟨rfl, (B1.out.setCell (p := ⟨w.heap.size, 0, none⟩) (Nat.le_refl _) _).setCell (p := ⟨w.heap.size, 1, none⟩) (Nat.le_refl _) _⟩
set_option maxRecDepth 100000 in
set_option maxHeartbeats 8000000 in
theorem brkNone_c (A A' : Option Addr) (c c' B : Nat) (a b : List If) (w : World) (h1 : IfsAt w B A a) (h2 : IfsAt w B A' b) (hB : B ≤ w.heap.size) (hl : a.length ≤ 1000) (hl' : b.length ≤ 1000) (hf : fairB a b = true) (hfa : a.all fewX = true) (hfb : b.all fewX = true) (hbig : bigC (chgF a b) = none) :
    Calls Tryz.prog 6 #[.slice A a.length c, .slice A' b.length c'] w fun e w' => e = .returned (.tuple #[.agg #[.slice none 0 0, .slice none 0 0], .bool false, .nilIface]) ∧ Below w.heap.size w w' := by
  have hW := Blk.new w #[.slice none 0 0, .slice none 0 0] 28
  have hbW : Below w.heap.size w (w.alloc (.cells #[.slice none 0 0, .slice none 0 0] 28)) := (Below.refl _ _).alloc (Nat.le_refl _) _
  have HC := Lib.hid (changes_c A A' c c' B a b (w.alloc (.cells #[.slice none 0 0, .slice none 0 0] 28)) (h1.alloc hB _) (h2.alloc hB _) (Nat.le_trans hB hbW.size) hl hl' hf hfa hfb)
  have HL := Lib.hid (show (chgF a b).length ≤ 2000000 from Nat.le_trans (chgF_len hl hl' hfa hfb) (by omega))
  have HI := Lib.hid (bigI_none hbig)
  clear h1 h2 hf hbig
  have HW := Lib.hid hW
  have HB := Lib.hid hbW
  clear hW hbW
  go_enter Tryz.func6, Tryz.ntmps6
  go_upto_region 2 with (go_at_call 12; refine HC.out.mono ?_; rintro e w1 ⟨v1, rfl, ho, hb⟩; have B1 := Lib.hid (HB.out.trans (hb.mono HB.out.size)); have D1 := Lib.hid (HW.out.under hb HW.out.lt); have R1 := Lib.hid (ChgAt.own ho); clear hb ho)
  go_upto_region 5 with (go_at_call 13; refine (idxChg_c _ v1 _ R1.out HL.out).mono ?_; rintro e w2 ⟨rfl, hb⟩; have B2 := Lib.hid (B1.out.trans (hb.mono B1.out.size)); have D2 := Lib.hid (D1.out.under hb D1.out.lt); clear hb)
  rw [HI.out]
  have q0 := D2.out.cell 0
  have q1 := D2.out.cell 1
  have f0 := D2.out.free 0
  have f1 := D2.out.free 1
  have lq := D2.out.lt
  simp at q0 q1
  go_wp2_with fail
  refine bodyPost_ret (by simp [results, Tryz.results6, go_sem, q0, q1, lq]; try rfl) rfl ?_
  exact ⟨rfl, (B2.out.setCell (p := ⟨w.heap.size, 0, none⟩) (Nat.le_refl _) _).setCell (p := ⟨w.heap.size, 1, none⟩) (Nat.le_refl _) _⟩
set_option maxRecDepth 100000 in
set_option maxHeartbeats 40000000 in
theorem brkYes_c (A A' : Option Addr) (c c' B : Nat) (a b : List If) (cc : Chg) (x : If) (n : Nm) (w : World) (h1 : IfsAt w B A a) (h2 : IfsAt w B A' b) (hB : B ≤ w.heap.size) (hl : a.length ≤ 1000) (hl' : b.length ≤ 1000) (hf : fairB a b = true) (hfa : a.all fewX = true) (hfb : b.all fewX = true) (hbig : bigC (chgF a b) = some cc)
    (hx : firstIface a cc.mod = some x) (hn : firstNamed (selF x cc.ofType) cc.name = some n) (hp : PlainB n.ty = true) :
    Calls Tryz.prog 6 #[.slice A a.length c, .slice A' b.length c'] w fun e w' => (∃ v, e = .returned (.tuple #[v, .bool true, .nilIface]) ∧ UAt w' v (some ⟨x, cc, n.ty⟩)) ∧ Below w.heap.size w w' := by
  have hW := Blk.new w #[.slice none 0 0, .slice none 0 0] 28
  have hbW : Below w.heap.size w (w.alloc (.cells #[.slice none 0 0, .slice none 0 0] 28)) := (Below.refl _ _).alloc (Nat.le_refl _) _
  have HC := Lib.hid (changes_c A A' c c' B a b (w.alloc (.cells #[.slice none 0 0, .slice none 0 0] 28)) (h1.alloc hB _) (h2.alloc hB _) (Nat.le_trans hB hbW.size) hl hl' hf hfa hfb)
  have HL := Lib.hid (show (chgF a b).length ≤ 2000000 from Nat.le_trans (chgF_len hl hl' hfa hfb) (by omega))
  obtain ⟨R, hR⟩ : ∃ R, chgF a b = R := ⟨_, rfl⟩
  simp only [hR] at HC HL hbig
  clear hR
  obtain ⟨k, hk, hkc, hki⟩ := bigI_some hbig
  have HI := Lib.hid hki
  have HK := Lib.hid hkc
  have H1 := Lib.hid h1
  have HMAY := Lib.hid (plain_may hp)
  have HHAD := Lib.hid (fun w h hB => had_c A c B a cc.kind cc.mod cc.name cc.ofType x n w h hB hl hfa hx hn)
  have HCOP := Lib.hid (fun cs B w ht hB => copied_c n.ty cs B w ht hB (plain_may hp))
  clear h1 h2 hf hbig hki hkc hx hn hp
  have HW := Lib.hid hW
  have HB := Lib.hid hbW
  clear hW hbW
  go_enter Tryz.func6, Tryz.ntmps6
  go_upto_region 2 with (go_at_call 12; refine HC.out.mono ?_; rintro e w1 ⟨v1, rfl, ho, hb⟩; have B1 := Lib.hid (HB.out.trans (hb.mono HB.out.size)); have D1 := Lib.hid (HW.out.under hb HW.out.lt); have R1 := Lib.hid (ChgAt.own ho); clear hb ho)
  go_upto_region 5 with (go_at_call 13; refine (idxChg_c _ v1 _ R1.out HL.out).mono ?_; rintro e w2 ⟨rfl, hb⟩; have B2 := Lib.hid (B1.out.trans (hb.mono B1.out.size)); have D2 := Lib.hid (D1.out.under hb D1.out.lt); have R2 := Lib.hid (R1.out.under hb); clear hb)
  rw [HI.out]
  obtain ⟨pp, cap, rfl, hcc⟩ := R2.out
  obtain ⟨bc, oc, rfl, lbc, gc⟩ := hcc (by omega)
  have x0 := gc k hk 0 (by decide)
  have x1 := gc k hk 1 (by decide)
  have x2 := gc k hk 2 (by decide)
  have x3 := gc k hk 3 (by decide)
  rw [HK.out] at x0 x1 x2 x3
  simp [Chg.cells] at x0 x1 x2 x3
  have hkI : (k : Int) < (R.length : Int) := by omega
  have hk0 : ¬ (k : Int) < 0 := by omega
  have hB2 : B ≤ w2.heap.size := Nat.le_trans hB B2.out.size
  clear hcc gc HC D1 B1 R1 R2
  go_upto_region 7 with fail
  go_upto_region 8 with (go_at_call 15; refine (HHAD.out _ (H1.out.under (B2.out.mono hB)) hB2).mono ?_; rintro e w3 ⟨⟨ta, tc, va, vc, na, nc, sa, sc, rfl, htn⟩, hb⟩; simp only [ifCells, tyCells] at htn ⊢; have B3 := Lib.hid (B2.out.trans (hb.mono B2.out.size)); have D3 := Lib.hid (D2.out.under hb D2.out.lt); have XC := Lib.hid (show w3.cell? ⟨bc, oc + k * 4 + 2, none⟩ = some (.string cc.name) from (hb.cell (p := ⟨bc, _, none⟩) lbc).trans x2); have XF := Lib.hid (show w3.cell? ⟨bc, oc + k * 4 + 3, none⟩ = some (.bool cc.ofType) from (hb.cell (p := ⟨bc, _, none⟩) lbc).trans x3); have lb3 := Nat.lt_of_lt_of_le lbc hb.size; have TN := Lib.hid htn; clear hb htn x0 x1 x2 x3)
  obtain ⟨bx, bt, hz8, hb8⟩ := twoW w3 #[.string x.pkg, .int .i64 x.major, .string x.mod, .slice ta x.types.length tc, .slice va x.vals.length vc] #[.int .i64 n.ty.kind, .string n.ty.pkg, .int .i64 n.ty.major, .string n.ty.mod, .string n.ty.name, .slice na n.ty.names.length nc, .slice sa n.ty.subs.length sc] 46 41
  generalize ((w3.alloc (.cells #[.string x.pkg, .int .i64 x.major, .string x.mod, .slice ta x.types.length tc, .slice va x.vals.length vc] 46)).alloc (.cells #[.int .i64 n.ty.kind, .string n.ty.pkg, .int .i64 n.ty.major, .string n.ty.mod, .string n.ty.name, .slice na n.ty.names.length nc, .slice sa n.ty.subs.length sc] 41)) = W at bx bt hz8 hb8 ⊢
  have HCN := Lib.hid ((hb8.cell (p := ⟨bc, _, none⟩) lb3).trans XC.out)
  have HCF := Lib.hid ((hb8.cell (p := ⟨bc, _, none⟩) lb3).trans XF.out)
  have lb8 := Nat.lt_of_lt_of_le lb3 hb8.size
  have hB3 : B ≤ w3.heap.size := Nat.le_trans hB B3.out.size
  have hB8 : B ≤ W.heap.size := Nat.le_trans hB3 hb8.size
  have TN8 := Lib.hid (TN.out.under (hb8.mono hB3))
  have B8 := Lib.hid (B3.out.trans (hb8.mono B3.out.size))
  have D8 := Lib.hid (D3.out.under hb8 D3.out.lt)
  have BX8 := Lib.hid bx
  have BT8 := Lib.hid bt
  generalize w3.heap.size = g10 at bx bt hz8 hb8 hB3 BX8 BT8 lb3 ⊢
  clear bx bt hz8 hb8 hB3 lb3 XC XF TN B3 D3
  refine wp_region_until [(9, fun w' => w'.cell? ⟨bc, oc + k * 4 + 2, none⟩ = some (.string cc.name)), (6, fun w' => Blk w' (g10 + 1) #[.int .i64 n.ty.kind, .string n.ty.pkg, .int .i64 n.ty.major, .string n.ty.mod, .string n.ty.name, .slice na n.ty.names.length nc, .slice sa n.ty.subs.length sc] 41)] (by kernel_rfl) (Until.cons (fun _ => HCN.out) (Until.cons (fun _ => BT8.out.drew) Until.nil)) (fun hU => ?_)
  refine AnyU.take (i := 0) (v := ?_) rfl (by kernel_rfl) (by kernel_rfl) (by kernel_rfl) (fun _ _ _ h => h) (by kernel_rfl) (by assumption) (by rfl) ?_ (fun hV => ?_)
  rotate_left 1
  · (intro wq; go_simp; try with_reducible rfl)
  clear hU
  have hU := hV
  clear hV
  try simp only [Act.put, List.getElem_toArray, List.getElem_cons_zero, List.getElem_cons_succ, List.setIfInBounds_toArray, List.set_cons_zero, List.set_cons_succ]
  refine AnyU.take (i := 1) (v := ?_) rfl (by kernel_rfl) (by kernel_rfl) (by kernel_rfl) (fun _ _ _ h => h) (by kernel_rfl) (by assumption) (by rfl) ?_ (fun hV => ?_)
  rotate_left 1
  · (intro wq; go_simp; try with_reducible rfl)
  clear hU
  have hU := hV
  clear hV
  try simp only [Act.put, List.getElem_toArray, List.getElem_cons_zero, List.getElem_cons_succ, List.setIfInBounds_toArray, List.set_cons_zero, List.set_cons_succ]
  refine AnyU.take (i := 2) (v := ?_) rfl (by kernel_rfl) (by kernel_rfl) (by kernel_rfl) (fun _ _ _ h => h) (by kernel_rfl) (by assumption) (by rfl) ?_ (fun hV => ?_)
  rotate_left 1
  · (intro wq; go_simp; try with_reducible rfl)
  clear hU
  have hU := hV
  clear hV
  try simp only [Act.put, List.getElem_toArray, List.getElem_cons_zero, List.getElem_cons_succ, List.setIfInBounds_toArray, List.set_cons_zero, List.set_cons_succ]
  refine AnyU.take (i := 3) (v := ?_) rfl (by kernel_rfl) (by kernel_rfl) (by kernel_rfl) (fun _ _ _ h => h) (by kernel_rfl) (by assumption) (by rfl) ?_ (fun hV => ?_)
  rotate_left 1
  · (intro wq; go_simp; try with_reducible rfl)
  clear hU
  have hU := hV
  clear hV
  try simp only [Act.put, List.getElem_toArray, List.getElem_cons_zero, List.getElem_cons_succ, List.setIfInBounds_toArray, List.set_cons_zero, List.set_cons_succ]
  refine AnyU.loadc (i := 4) (d := 9) [7, 9] (Si := fun w' => w'.cell? ⟨bc, oc + k * 4 + 2, none⟩ = some (.string cc.name)) (v := ?_) rfl (by kernel_rfl) (by kernel_rfl) (by kernel_rfl) (fun _ _ _ h => h) (by kernel_rfl) (by assumption) (by kernel_rfl) rfl (by simp) (by rfl) ?_ (fun hV => ?_)
  rotate_left 1
  · (intro wq hq; go_simp; try with_reducible rfl)
  clear hU
  have hU := hV
  clear hV
  try simp only [Act.put, List.getElem_toArray, List.getElem_cons_zero, List.getElem_cons_succ, List.setIfInBounds_toArray, List.set_cons_zero, List.set_cons_succ]
  refine AnyU.loadc (i := 5) (d := 6) [6] (Si := fun w' => Blk w' (g10 + 1) #[.int .i64 n.ty.kind, .string n.ty.pkg, .int .i64 n.ty.major, .string n.ty.mod, .string n.ty.name, .slice na n.ty.names.length nc, .slice sa n.ty.subs.length sc] 41) (v := ?_) rfl (by kernel_rfl) (by kernel_rfl) (by kernel_rfl) (fun _ _ _ h => h) (by kernel_rfl) (by assumption) (by kernel_rfl) rfl (by simp) (by rfl) ?_ (fun hV => ?_)
  rotate_left 1
  · (intro wq hq; have u0 := hq.cell 0; have u1 := hq.cell 1; have u2 := hq.cell 2; have u3 := hq.cell 3; have u4 := hq.cell 4; have u5 := hq.cell 5; have u6 := hq.cell 6; simp at u0 u1 u2 u3 u4 u5 u6; go_simp; try with_reducible rfl)
  clear hU
  have hU := hV
  clear hV
  try simp only [Act.put, List.getElem_toArray, List.getElem_cons_zero, List.getElem_cons_succ, List.setIfInBounds_toArray, List.set_cons_zero, List.set_cons_succ]
  refine AnyU.ready2 (i := 6) (j := 8) (by kernel_rfl) (AnyU.one rfl fun K hK => ?_) (AnyU.one rfl fun K hK => ?_)
  · go_simp
    go_at_call 16
    refine (HCOP.out _ B (World.drew W) (TN8.out.keep (w' := World.drew W) fun _ _ => rfl) (hB8)).mono ?_
    rintro e wq ⟨⟨cs2, rfl, htm⟩, hbq⟩
    obtain ⟨na2, nc2, sa2, sc2, f2, rfl, -⟩ := htm.inv
    simp only [tyCells] at htm ⊢
    have hbq : Below W.heap.size W wq := ((Below.refl W.heap.size W).drew).trans hbq
    have hcq := (hbq.cell (p := ⟨bc, _, none⟩) lb8).trans HCN.out
    refine hK.out _ _ (Until.cons (fun _ => hcq) (Until.cons (fun h => absurd h (by decide)) Until.nil)) (fun hV => ?_)
    clear hK K
    clear hU
    have hU := hV
    clear hV
    try simp only [Act.put, List.getElem_toArray, List.getElem_cons_zero, List.getElem_cons_succ, List.setIfInBounds_toArray, List.set_cons_zero, List.set_cons_succ]
    refine AnyU.take (i := 7) (v := ?_) rfl (by kernel_rfl) (by kernel_rfl) (by kernel_rfl) (fun _ _ _ h => h) (by kernel_rfl) (by assumption) (by rfl) ?_ (fun hV => ?_)
    rotate_left 1
    · (intro wq; go_simp; try with_reducible rfl)
    clear hU
    have hU := hV
    clear hV
    try simp only [Act.put, List.getElem_toArray, List.getElem_cons_zero, List.getElem_cons_succ, List.setIfInBounds_toArray, List.set_cons_zero, List.set_cons_succ]
    refine AnyU.ready1 (i := 8) (by kernel_rfl) (AnyU.one rfl fun K hK => ?_)
    go_simp
    have bl := Blk.new wq #[.int .i64 0, .string { data := #[] }, .string { data := #[] }, .int .i64 0, .string { data := #[] }, .int .i64 0, .string { data := #[] }, .string { data := #[] }, .slice none 0 0, .slice none 0 0] 61
    have bq0 := hbq.alloc hbq.size (.cells #[.int .i64 0, .string { data := #[] }, .string { data := #[] }, .int .i64 0, .string { data := #[] }, .int .i64 0, .string { data := #[] }, .string { data := #[] }, .slice none 0 0, .slice none 0 0] 61)
    have hzz : (wq.alloc (.cells #[.int .i64 0, .string { data := #[] }, .string { data := #[] }, .int .i64 0, .string { data := #[] }, .int .i64 0, .string { data := #[] }, .string { data := #[] }, .slice none 0 0, .slice none 0 0] 61)).heap.size = wq.heap.size + 1 := by simp
    have htm := htm.keep (w' := wq.alloc (.cells #[.int .i64 0, .string { data := #[] }, .string { data := #[] }, .int .i64 0, .string { data := #[] }, .int .i64 0, .string { data := #[] }, .string { data := #[] }, .slice none 0 0, .slice none 0 0] 61)) fun p hp => World.cell?_alloc_lt _ _ _ hp.2
    have hmn : ∀ b, Fresh (World.drew W) wq b → b ≠ wq.heap.size ∧ b < wq.heap.size + 1 := fun b hb => ⟨Nat.ne_of_lt hb.2, Nat.lt_succ_of_lt hb.2⟩
    have hg12 : W.heap.size ≤ wq.heap.size := hbq.size
    have hcx := (World.cell?_alloc_lt wq (.cells #[.int .i64 0, .string { data := #[] }, .string { data := #[] }, .int .i64 0, .string { data := #[] }, .int .i64 0, .string { data := #[] }, .string { data := #[] }, .slice none 0 0, .slice none 0 0] 61) ⟨bc, oc + k * 4 + 2, none⟩ (Nat.lt_of_lt_of_le lb8 hbq.size)).trans hcq
    have hzx : wq.heap.size + 1 = (wq.alloc (.cells #[.int .i64 0, .string { data := #[] }, .string { data := #[] }, .int .i64 0, .string { data := #[] }, .int .i64 0, .string { data := #[] }, .string { data := #[] }, .slice none 0 0, .slice none 0 0] 61)).heap.size := hzz.symm
    generalize hX8 : wq.alloc (.cells #[.int .i64 0, .string { data := #[] }, .string { data := #[] }, .int .i64 0, .string { data := #[] }, .int .i64 0, .string { data := #[] }, .string { data := #[] }, .slice none 0 0, .slice none 0 0] 61) = X8 at bl bq0 htm hcx hzx ⊢
    clear hX8 hzz
    generalize wq.heap.size = g12 at bl hmn hg12 hzx ⊢
    have BL := Lib.hid bl
    have BQ0 := Lib.hid bq0
    have HTM := Lib.hid htm
    have HG12 := Lib.hid hg12
    have HNE := Lib.hid (show ∀ b, Fresh (World.drew W) wq b → b ≠ w.heap.size from fun b hb => by have h1 := D8.out.lt; have h2 : W.heap.size ≤ b := hb.1; omega)
    have HMN := Lib.hid (show ∀ b, Fresh (World.drew W) wq b → b ≠ g12 ∧ b < X8.heap.size from fun b hb => by rw [← hzx]; exact hmn b hb)
    clear bl bq0 htm hg12 hmn hzx hcq
    refine hK.out _ _ (Until.cons (fun _ => hcx) (Until.cons (fun h => absurd h (by decide)) Until.nil)) (fun hV => ?_)
    clear hK K
    clear hU
    have hU := hV
    clear hV
    try simp only [Act.put, List.getElem_toArray, List.getElem_cons_zero, List.getElem_cons_succ, List.setIfInBounds_toArray, List.set_cons_zero, List.set_cons_succ]
    have z0 := BL.out.cell 0
    have y0 := BL.out.free 0
    have z1 := BL.out.cell 1
    have y1 := BL.out.free 1
    have z2 := BL.out.cell 2
    have y2 := BL.out.free 2
    have z3 := BL.out.cell 3
    have y3 := BL.out.free 3
    have z4 := BL.out.cell 4
    have y4 := BL.out.free 4
    have z5 := BL.out.cell 5
    have y5 := BL.out.free 5
    have z6 := BL.out.cell 6
    have y6 := BL.out.free 6
    have z7 := BL.out.cell 7
    have y7 := BL.out.free 7
    have z8 := BL.out.cell 8
    have y8 := BL.out.free 8
    have z9 := BL.out.cell 9
    have y9 := BL.out.free 9
    simp at z0 z1 z2 z3 z4 z5 z6 z7 z8 z9
    have ll := BL.out.lt
    refine AnyU.ready1 (i := 9) (by kernel_rfl) (AnyU.one rfl fun K hK => ?_)
    go_simp
    have r1 := put10h_full (.int .i64 1) (.string { data := #[109] }) (.string cc.name) (.int .i64 n.ty.kind) (.string n.ty.pkg) (.int .i64 n.ty.major) (.string n.ty.mod) (.string n.ty.name) (.slice na2 n.ty.names.length nc2) (.slice sa2 n.ty.subs.length sc2) BL.out
    have r2 := put10h_bel (.int .i64 1) (.string { data := #[109] }) (.string cc.name) (.int .i64 n.ty.kind) (.string n.ty.pkg) (.int .i64 n.ty.major) (.string n.ty.mod) (.string n.ty.name) (.slice na2 n.ty.names.length nc2) (.slice sa2 n.ty.subs.length sc2) BQ0.out HG12.out
    have r3 := fun b (hne : b ≠ g12) => put10h_heap (.int .i64 1) (.string { data := #[109] }) (.string cc.name) (.int .i64 n.ty.kind) (.string n.ty.pkg) (.int .i64 n.ty.major) (.string n.ty.mod) (.string n.ty.name) (.slice na2 n.ty.names.length nc2) (.slice sa2 n.ty.subs.length sc2) (w := X8) hne
    have r4 := put10h_size (.int .i64 1) (.string { data := #[109] }) (.string cc.name) (.int .i64 n.ty.kind) (.string n.ty.pkg) (.int .i64 n.ty.major) (.string n.ty.mod) (.string n.ty.name) (.slice na2 n.ty.names.length nc2) (.slice sa2 n.ty.subs.length sc2) (w := X8) (g := g12)
    generalize ((((((((((X8.setCell ⟨g12, 0, none⟩ (.int .i64 1)).setCell ⟨g12, 1, none⟩ (.string { data := #[109] })).setCell ⟨g12, 2, none⟩ (.string cc.name)).setCell ⟨g12, 3, none⟩ (.int .i64 n.ty.kind)).setCell ⟨g12, 4, none⟩ (.string n.ty.pkg)).setCell ⟨g12, 5, none⟩ (.int .i64 n.ty.major)).setCell ⟨g12, 6, none⟩ (.string n.ty.mod)).setCell ⟨g12, 7, none⟩ (.string n.ty.name)).setCell ⟨g12, 8, none⟩ (.slice na2 n.ty.names.length nc2)).setCell ⟨g12, 9, none⟩ (.slice sa2 n.ty.subs.length sc2)) = X9 at r1 r2 r3 r4 ⊢
    have hz9 : X8.heap.size ≤ X9.heap.size := by rw [r4]; exact Nat.le_refl _
    have BL9 := Lib.hid r1
    have BQ := Lib.hid r2
    have TM9 := Lib.hid (HTM.out.keep (w' := X9) fun p hp => World.cell?_of_block (r3 p.block (HMN.out p.block hp).1))
    have LT9 := Lib.hid (show X9.heap.size = X8.heap.size from r4)
    clear r1 r2 r3 r4 hz9 ll z0 y0 z1 y1 z2 y2 z3 y3 z4 y4 z5 y5 z6 y6 z7 y7 z8 y8 z9 y9
    refine hK.out _ _ (Until.off (by kernel_rfl)) (fun hV => ?_)
    clear hK K
    clear hU
    have hU := hV
    clear hV
    try simp only [Act.put, List.getElem_toArray, List.getElem_cons_zero, List.getElem_cons_succ, List.setIfInBounds_toArray, List.set_cons_zero, List.set_cons_succ]
    refine AnyU.done (by kernel_rfl) ?_
    clear hU
    have cf := (BQ.out.cell (p := ⟨bc, _, none⟩) lb8).trans HCF.out
    have lb9 := Nat.lt_of_lt_of_le lb8 BQ.out.size
    have BX9 := Lib.hid (BX8.out.under BQ.out BX8.out.lt)
    have D9 := Lib.hid (D8.out.under BQ.out D8.out.lt)
    have B9 := Lib.hid (B8.out.trans (BQ.out.mono B8.out.size))
    obtain ⟨o, ho⟩ : ∃ o, cc.ofType = o := ⟨_, rfl⟩
    have HOO := Lib.hid ho
    rw [ho] at cf ⊢
    clear ho
    cases o
    · go_upto_region 11 with fail
      have bl := BL9.out
      have bb := B9.out
      have bx := BX9.out
      have dd := D9.out
      have tm := TM9.out
      have lt := LT9.out
      generalize X9 = Xb at bl bb bx dd tm lt ⊢
      have hmb : ∀ b, _ → b < Xb.heap.size := fun b hb => by have := (HMN.out b hb).2; rw [lt]; exact this
      have HMb := Lib.hid hmb
      have BLb := Lib.hid bl
      have BBb := Lib.hid bb
      have BXb := Lib.hid bx
      have Db := Lib.hid dd
      have TYb := Lib.hid tm
      clear bl bb bx dd tm lt hmb cf lb9
      obtain ⟨n0, n1, n2, n3, n4⟩ := cellsN5 BXb.out
      have ln := BXb.out.lt
      go_upto_region 12 with fail
      clear n0 n1 n2 n3 n4 ln
      have ib := Blk.new Xb #[.string x.pkg, .int .i64 x.major, .string x.mod, .string { data := #[109] }] 63
      have hbi : Below Xb.heap.size Xb (Xb.alloc (.cells #[.string x.pkg, .int .i64 x.major, .string x.mod, .string { data := #[109] }] 63)) := (Below.refl _ _).alloc (Nat.le_refl _) _
      generalize Xb.alloc (.cells #[.string x.pkg, .int .i64 x.major, .string x.mod, .string { data := #[109] }] 63) = Xc at ib hbi ⊢
      generalize hgi : Xb.heap.size = gi at ib ⊢
      clear hgi
      have BLc := Lib.hid (BLb.out.under hbi BLb.out.lt)
      have BBc := Lib.hid (BBb.out.trans (hbi.mono BBb.out.size))
      have Dc := Lib.hid (Db.out.under hbi Db.out.lt)
      have TYc := Lib.hid (TYb.out.keep (w' := Xc) fun p hp => hbi.cell (HMb.out p.block hp))
      have HMc := Lib.hid (show ∀ b, _ → b < Xc.heap.size from fun b hb => Nat.lt_of_lt_of_le (HMb.out b hb) hbi.size)
      have IB := Lib.hid ib
      clear hbi ib
      obtain ⟨i0, i1, i2, i3⟩ := cellsC IB.out
      have li := IB.out.lt
      have z0 := BLc.out.cell 0
      have z1 := BLc.out.cell 1
      have z2 := BLc.out.cell 2
      have z3 := BLc.out.cell 3
      have z4 := BLc.out.cell 4
      have z5 := BLc.out.cell 5
      have z6 := BLc.out.cell 6
      have z7 := BLc.out.cell 7
      have z8 := BLc.out.cell 8
      have z9 := BLc.out.cell 9
      simp at z0 z1 z2 z3 z4 z5 z6 z7 z8 z9
      have ll := BLc.out.lt
      have d0 := Dc.out.cell 0
      have d1 := Dc.out.cell 1
      simp at d0 d1
      have fd0 := Dc.out.free 0
      have fd1 := Dc.out.free 1
      have ld := Dc.out.lt
      go_wp2_with fail
      have dz0 : Blk ((Xc.setCell ⟨w.heap.size, 0, none⟩ (.slice (some ⟨Xc.heap.size, 0, none⟩) 1 1)).setCell ⟨w.heap.size, 1, none⟩ (.slice (some ⟨Xc.heap.size + 1, 0, none⟩) 1 1)) w.heap.size #[(.slice (some ⟨Xc.heap.size, 0, none⟩) 1 1), (.slice (some ⟨Xc.heap.size + 1, 0, none⟩) 1 1)] 28 := by have := (Dc.out.set 0 (.slice (some ⟨Xc.heap.size, 0, none⟩) 1 1)).set 1 (.slice (some ⟨Xc.heap.size + 1, 0, none⟩) 1 1); simpa using this
      have hs0 : ((Xc.setCell ⟨w.heap.size, 0, none⟩ (.slice (some ⟨Xc.heap.size, 0, none⟩) 1 1)).setCell ⟨w.heap.size, 1, none⟩ (.slice (some ⟨Xc.heap.size + 1, 0, none⟩) 1 1)).heap.size = Xc.heap.size := (set_size _ _ _ _).trans (set_size _ _ _ _)
      have bS : Below w.heap.size w ((Xc.setCell ⟨w.heap.size, 0, none⟩ (.slice (some ⟨Xc.heap.size, 0, none⟩) 1 1)).setCell ⟨w.heap.size, 1, none⟩ (.slice (some ⟨Xc.heap.size + 1, 0, none⟩) 1 1)) := (BBc.out.setCell (p := ⟨w.heap.size, 0, none⟩) (Nat.le_refl _) _).setCell (p := ⟨w.heap.size, 1, none⟩) (Nat.le_refl _) _
      have tS := TYc.out.keep (w' := ((Xc.setCell ⟨w.heap.size, 0, none⟩ (.slice (some ⟨Xc.heap.size, 0, none⟩) 1 1)).setCell ⟨w.heap.size, 1, none⟩ (.slice (some ⟨Xc.heap.size + 1, 0, none⟩) 1 1))) fun p hp => (World.cell?_of_block ((set_heap _ _ _ _ (HNE.out p.block hp)).trans (set_heap _ _ _ _ (HNE.out p.block hp))))
      generalize ((Xc.setCell ⟨w.heap.size, 0, none⟩ (.slice (some ⟨Xc.heap.size, 0, none⟩) 1 1)).setCell ⟨w.heap.size, 1, none⟩ (.slice (some ⟨Xc.heap.size + 1, 0, none⟩) 1 1)) = X0 at dz0 hs0 bS tS ⊢
      obtain ⟨w1b, w2b, w3b, w4b⟩ := twoW X0 #[.string x.pkg, .int .i64 x.major, .string x.mod, .string { data := #[109] }] #[.int .i64 1, .string { data := #[109] }, .string cc.name, .int .i64 n.ty.kind, .string n.ty.pkg, .int .i64 n.ty.major, .string n.ty.mod, .string n.ty.name, .slice na2 n.ty.names.length nc2, .slice sa2 n.ty.subs.length sc2] 63 61
      have dz := dz0.under w4b dz0.lt
      have fb : Below w.heap.size w ((X0.alloc (.cells #[.string x.pkg, .int .i64 x.major, .string x.mod, .string { data := #[109] }] 63)).alloc (.cells #[.int .i64 1, .string { data := #[109] }, .string cc.name, .int .i64 n.ty.kind, .string n.ty.pkg, .int .i64 n.ty.major, .string n.ty.mod, .string n.ty.name, .slice na2 n.ty.names.length nc2, .slice sa2 n.ty.subs.length sc2] 61)) := bS.trans (w4b.mono bS.size)
      have ft := ((tS.keep (w' := ((X0.alloc (.cells #[.string x.pkg, .int .i64 x.major, .string x.mod, .string { data := #[109] }] 63)).alloc (.cells #[.int .i64 1, .string { data := #[109] }, .string cc.name, .int .i64 n.ty.kind, .string n.ty.pkg, .int .i64 n.ty.major, .string n.ty.mod, .string n.ty.name, .slice na2 n.ty.names.length nc2, .slice sa2 n.ty.subs.length sc2] 61))) fun p hp => w4b.cell (by rw [hs0]; exact HMc.out p.block hp)).mono fun b hb => (show b < (((X0.alloc (.cells #[.string x.pkg, .int .i64 x.major, .string x.mod, .string { data := #[109] }] 63)).alloc (.cells #[.int .i64 1, .string { data := #[109] }, .string cc.name, .int .i64 n.ty.kind, .string n.ty.pkg, .int .i64 n.ty.major, .string n.ty.mod, .string n.ty.name, .slice na2 n.ty.names.length nc2, .slice sa2 n.ty.subs.length sc2] 61))).heap.size by have := HMc.out b hb; rw [w3b, hs0]; omega)).toC
      have f1 := w1b
      have f2 := w2b
      rw [hs0] at f1 f2
      generalize ((X0.alloc (.cells #[.string x.pkg, .int .i64 x.major, .string x.mod, .string { data := #[109] }] 63)).alloc (.cells #[.int .i64 1, .string { data := #[109] }, .string cc.name, .int .i64 n.ty.kind, .string n.ty.pkg, .int .i64 n.ty.major, .string n.ty.mod, .string n.ty.name, .slice na2 n.ty.names.length nc2, .slice sa2 n.ty.subs.length sc2] 61)) = Wf at dz f1 f2 fb ft ⊢
      have r0 := dz.cell 0
      have r1 := dz.cell 1
      simp at r0 r1
      refine bodyPost_ret (by simp [results, Tryz.results6, go_sem, r0, r1, dz.lt]; try rfl) rfl ?_
      refine ⟨⟨_, rfl, Xc.heap.size, Xc.heap.size + 1, na2, nc2, sa2, sc2, rfl, f1, ?_, ?_⟩, fb⟩
      · show Blk Wf _ #[.int .i64 (if cc.ofType = true then 2 else 1), _, _, _, _, _, _, _, _, _] _
        rw [HOO.out]
        exact f2
      · exact ft
    · have z0 := BL9.out.cell 0
      have y0 := BL9.out.free 0
      have ll := BL9.out.lt
      simp at z0
      go_upto_region 11 with fail
      have bl : Blk (X9.setCell ⟨g12, 0, none⟩ (.int .i64 2)) g12 #[.int .i64 2, .string { data := #[109] }, .string cc.name, .int .i64 n.ty.kind, .string n.ty.pkg, .int .i64 n.ty.major, .string n.ty.mod, .string n.ty.name, .slice na2 n.ty.names.length nc2, .slice sa2 n.ty.subs.length sc2] 61 := by have := BL9.out.set 0 (.int .i64 2); simpa using this
      have bb : Below w.heap.size w (X9.setCell ⟨g12, 0, none⟩ (.int .i64 2)) := B9.out.setCell (p := ⟨g12, 0, none⟩) (Nat.le_trans B8.out.size HG12.out) _
      have hnx : g10 ≠ g12 := fun e => by have h1 := BX8.out.lt; have h2 := HG12.out; omega
      have hnd : w.heap.size ≠ g12 := fun e => by have h1 := D8.out.lt; have h2 := HG12.out; omega
      have bx := BX9.out.far ⟨g12, 0, none⟩ (.int .i64 2) hnx
      have dd := D9.out.far ⟨g12, 0, none⟩ (.int .i64 2) hnd
      have tm := TM9.out.keep (w' := (X9.setCell ⟨g12, 0, none⟩ (.int .i64 2))) fun p hp => World.cell?_of_block (set_heap X9 g12 0 _ (HMN.out p.block hp).1)
      have lt : (X9.setCell ⟨g12, 0, none⟩ (.int .i64 2)).heap.size = X8.heap.size := (set_size _ _ _ _).trans LT9.out
      generalize (X9.setCell ⟨g12, 0, none⟩ (.int .i64 2)) = Xb at bl bb bx dd tm lt ⊢
      clear z0 y0 ll
      have hmb : ∀ b, _ → b < Xb.heap.size := fun b hb => by have := (HMN.out b hb).2; rw [lt]; exact this
      have HMb := Lib.hid hmb
      have BLb := Lib.hid bl
      have BBb := Lib.hid bb
      have BXb := Lib.hid bx
      have Db := Lib.hid dd
      have TYb := Lib.hid tm
      clear bl bb bx dd tm lt hmb cf lb9
      obtain ⟨n0, n1, n2, n3, n4⟩ := cellsN5 BXb.out
      have ln := BXb.out.lt
      go_upto_region 12 with fail
      clear n0 n1 n2 n3 n4 ln
      have ib := Blk.new Xb #[.string x.pkg, .int .i64 x.major, .string x.mod, .string { data := #[109] }] 63
      have hbi : Below Xb.heap.size Xb (Xb.alloc (.cells #[.string x.pkg, .int .i64 x.major, .string x.mod, .string { data := #[109] }] 63)) := (Below.refl _ _).alloc (Nat.le_refl _) _
      generalize Xb.alloc (.cells #[.string x.pkg, .int .i64 x.major, .string x.mod, .string { data := #[109] }] 63) = Xc at ib hbi ⊢
      generalize hgi : Xb.heap.size = gi at ib ⊢
      clear hgi
      have BLc := Lib.hid (BLb.out.under hbi BLb.out.lt)
      have BBc := Lib.hid (BBb.out.trans (hbi.mono BBb.out.size))
      have Dc := Lib.hid (Db.out.under hbi Db.out.lt)
      have TYc := Lib.hid (TYb.out.keep (w' := Xc) fun p hp => hbi.cell (HMb.out p.block hp))
      have HMc := Lib.hid (show ∀ b, _ → b < Xc.heap.size from fun b hb => Nat.lt_of_lt_of_le (HMb.out b hb) hbi.size)
      have IB := Lib.hid ib
      clear hbi ib
      obtain ⟨i0, i1, i2, i3⟩ := cellsC IB.out
      have li := IB.out.lt
      have z0 := BLc.out.cell 0
      have z1 := BLc.out.cell 1
      have z2 := BLc.out.cell 2
      have z3 := BLc.out.cell 3
      have z4 := BLc.out.cell 4
      have z5 := BLc.out.cell 5
      have z6 := BLc.out.cell 6
      have z7 := BLc.out.cell 7
      have z8 := BLc.out.cell 8
      have z9 := BLc.out.cell 9
      simp at z0 z1 z2 z3 z4 z5 z6 z7 z8 z9
      have ll := BLc.out.lt
      have d0 := Dc.out.cell 0
      have d1 := Dc.out.cell 1
      simp at d0 d1
      have fd0 := Dc.out.free 0
      have fd1 := Dc.out.free 1
      have ld := Dc.out.lt
      go_wp2_with fail
      have dz0 : Blk ((Xc.setCell ⟨w.heap.size, 0, none⟩ (.slice (some ⟨Xc.heap.size, 0, none⟩) 1 1)).setCell ⟨w.heap.size, 1, none⟩ (.slice (some ⟨Xc.heap.size + 1, 0, none⟩) 1 1)) w.heap.size #[(.slice (some ⟨Xc.heap.size, 0, none⟩) 1 1), (.slice (some ⟨Xc.heap.size + 1, 0, none⟩) 1 1)] 28 := by have := (Dc.out.set 0 (.slice (some ⟨Xc.heap.size, 0, none⟩) 1 1)).set 1 (.slice (some ⟨Xc.heap.size + 1, 0, none⟩) 1 1); simpa using this
      have hs0 : ((Xc.setCell ⟨w.heap.size, 0, none⟩ (.slice (some ⟨Xc.heap.size, 0, none⟩) 1 1)).setCell ⟨w.heap.size, 1, none⟩ (.slice (some ⟨Xc.heap.size + 1, 0, none⟩) 1 1)).heap.size = Xc.heap.size := (set_size _ _ _ _).trans (set_size _ _ _ _)
      have bS : Below w.heap.size w ((Xc.setCell ⟨w.heap.size, 0, none⟩ (.slice (some ⟨Xc.heap.size, 0, none⟩) 1 1)).setCell ⟨w.heap.size, 1, none⟩ (.slice (some ⟨Xc.heap.size + 1, 0, none⟩) 1 1)) := (BBc.out.setCell (p := ⟨w.heap.size, 0, none⟩) (Nat.le_refl _) _).setCell (p := ⟨w.heap.size, 1, none⟩) (Nat.le_refl _) _
      have tS := TYc.out.keep (w' := ((Xc.setCell ⟨w.heap.size, 0, none⟩ (.slice (some ⟨Xc.heap.size, 0, none⟩) 1 1)).setCell ⟨w.heap.size, 1, none⟩ (.slice (some ⟨Xc.heap.size + 1, 0, none⟩) 1 1))) fun p hp => (World.cell?_of_block ((set_heap _ _ _ _ (HNE.out p.block hp)).trans (set_heap _ _ _ _ (HNE.out p.block hp))))
      generalize ((Xc.setCell ⟨w.heap.size, 0, none⟩ (.slice (some ⟨Xc.heap.size, 0, none⟩) 1 1)).setCell ⟨w.heap.size, 1, none⟩ (.slice (some ⟨Xc.heap.size + 1, 0, none⟩) 1 1)) = X0 at dz0 hs0 bS tS ⊢
      obtain ⟨w1b, w2b, w3b, w4b⟩ := twoW X0 #[.string x.pkg, .int .i64 x.major, .string x.mod, .string { data := #[109] }] #[.int .i64 2, .string { data := #[109] }, .string cc.name, .int .i64 n.ty.kind, .string n.ty.pkg, .int .i64 n.ty.major, .string n.ty.mod, .string n.ty.name, .slice na2 n.ty.names.length nc2, .slice sa2 n.ty.subs.length sc2] 63 61
      have dz := dz0.under w4b dz0.lt
      have fb : Below w.heap.size w ((X0.alloc (.cells #[.string x.pkg, .int .i64 x.major, .string x.mod, .string { data := #[109] }] 63)).alloc (.cells #[.int .i64 2, .string { data := #[109] }, .string cc.name, .int .i64 n.ty.kind, .string n.ty.pkg, .int .i64 n.ty.major, .string n.ty.mod, .string n.ty.name, .slice na2 n.ty.names.length nc2, .slice sa2 n.ty.subs.length sc2] 61)) := bS.trans (w4b.mono bS.size)
      have ft := ((tS.keep (w' := ((X0.alloc (.cells #[.string x.pkg, .int .i64 x.major, .string x.mod, .string { data := #[109] }] 63)).alloc (.cells #[.int .i64 2, .string { data := #[109] }, .string cc.name, .int .i64 n.ty.kind, .string n.ty.pkg, .int .i64 n.ty.major, .string n.ty.mod, .string n.ty.name, .slice na2 n.ty.names.length nc2, .slice sa2 n.ty.subs.length sc2] 61))) fun p hp => w4b.cell (by rw [hs0]; exact HMc.out p.block hp)).mono fun b hb => (show b < (((X0.alloc (.cells #[.string x.pkg, .int .i64 x.major, .string x.mod, .string { data := #[109] }] 63)).alloc (.cells #[.int .i64 2, .string { data := #[109] }, .string cc.name, .int .i64 n.ty.kind, .string n.ty.pkg, .int .i64 n.ty.major, .string n.ty.mod, .string n.ty.name, .slice na2 n.ty.names.length nc2, .slice sa2 n.ty.subs.length sc2] 61))).heap.size by have := HMc.out b hb; rw [w3b, hs0]; omega)).toC
      have f1 := w1b
      have f2 := w2b
      rw [hs0] at f1 f2
      generalize ((X0.alloc (.cells #[.string x.pkg, .int .i64 x.major, .string x.mod, .string { data := #[109] }] 63)).alloc (.cells #[.int .i64 2, .string { data := #[109] }, .string cc.name, .int .i64 n.ty.kind, .string n.ty.pkg, .int .i64 n.ty.major, .string n.ty.mod, .string n.ty.name, .slice na2 n.ty.names.length nc2, .slice sa2 n.ty.subs.length sc2] 61)) = Wf at dz f1 f2 fb ft ⊢
      have r0 := dz.cell 0
      have r1 := dz.cell 1
      simp at r0 r1
      refine bodyPost_ret (by simp [results, Tryz.results6, go_sem, r0, r1, dz.lt]; try rfl) rfl ?_
      refine ⟨⟨_, rfl, Xc.heap.size, Xc.heap.size + 1, na2, nc2, sa2, sc2, rfl, f1, ?_, ?_⟩, fb⟩
      · show Blk Wf _ #[.int .i64 (if cc.ofType = true then 2 else 1), _, _, _, _, _, _, _, _, _] _
        rw [HOO.out]
        exact f2
      · exact ft
  · go_simp
    have bl := (Blk.new W #[.int .i64 0, .string { data := #[] }, .string { data := #[] }, .int .i64 0, .string { data := #[] }, .int .i64 0, .string { data := #[] }, .string { data := #[] }, .slice none 0 0, .slice none 0 0] 61).drew
    have bq0 := ((Below.refl W.heap.size W).alloc (Nat.le_refl _) (.cells #[.int .i64 0, .string { data := #[] }, .string { data := #[] }, .int .i64 0, .string { data := #[] }, .int .i64 0, .string { data := #[] }, .string { data := #[] }, .slice none 0 0, .slice none 0 0] 61)).drew
    have hzz : ((W.alloc (.cells #[.int .i64 0, .string { data := #[] }, .string { data := #[] }, .int .i64 0, .string { data := #[] }, .int .i64 0, .string { data := #[] }, .string { data := #[] }, .slice none 0 0, .slice none 0 0] 61)).drew).heap.size = W.heap.size + 1 := by show (W.alloc (.cells #[.int .i64 0, .string { data := #[] }, .string { data := #[] }, .int .i64 0, .string { data := #[] }, .int .i64 0, .string { data := #[] }, .string { data := #[] }, .slice none 0 0, .slice none 0 0] 61)).heap.size = _; simp
    generalize hX7 : (W.alloc (.cells #[.int .i64 0, .string { data := #[] }, .string { data := #[] }, .int .i64 0, .string { data := #[] }, .int .i64 0, .string { data := #[] }, .string { data := #[] }, .slice none 0 0, .slice none 0 0] 61)).drew = X7 at bl bq0 hzz ⊢
    clear hX7
    have BL0 := Lib.hid bl
    have BQ7 := Lib.hid bq0
    have HZ7 := Lib.hid hzz
    have BT7 := Lib.hid (BT8.out.under bq0 BT8.out.lt)
    have hcx := (bq0.cell (p := ⟨bc, _, none⟩) lb8).trans HCN.out
    clear bl hzz
    refine hK.out _ _ (Until.cons (fun _ => hcx) (Until.cons (fun _ => BT7.out) Until.nil)) (fun hV => ?_)
    clear hK K
    clear hU
    have hU := hV
    clear hV
    try simp only [Act.put, List.getElem_toArray, List.getElem_cons_zero, List.getElem_cons_succ, List.setIfInBounds_toArray, List.set_cons_zero, List.set_cons_succ]
    refine AnyU.ready1 (i := 6) (by kernel_rfl) (AnyU.one rfl fun K hK => ?_)
    go_simp
    go_at_call 16
    refine (HCOP.out _ B X7 (TN8.out.under (bq0.mono hB8)) (Nat.le_trans hB8 bq0.size)).mono ?_
    rintro e wq ⟨⟨cs2, rfl, htm⟩, hbq⟩
    obtain ⟨na2, nc2, sa2, sc2, f2, rfl, -⟩ := htm.inv
    simp only [tyCells] at htm ⊢
    have BQ0 := Lib.hid (bq0.trans (hbq.mono bq0.size))
    have BL := Lib.hid (BL0.out.under hbq BL0.out.lt)
    have hcq := (hbq.cell (p := ⟨bc, _, none⟩) (Nat.lt_of_lt_of_le lb8 bq0.size)).trans hcx
    have HTM := Lib.hid htm
    have hmn : ∀ b, Fresh X7 wq b → b ≠ W.heap.size ∧ b < wq.heap.size := fun b hb => ⟨by have := hb.1; have := HZ7.out; omega, hb.2⟩
    have hg12 : W.heap.size ≤ W.heap.size := Nat.le_refl _
    have HNE := Lib.hid (show ∀ b, Fresh X7 wq b → b ≠ w.heap.size from fun b hb => by have h1 := D8.out.lt; have h2 := hb.1; have h3 := HZ7.out; omega)
    have HMN := Lib.hid hmn
    have HG12 := Lib.hid hg12
    clear hmn hg12 htm hbq hcx bq0
    refine hK.out _ _ (Until.cons (fun _ => hcq) (Until.cons (fun h => absurd h (by decide)) Until.nil)) (fun hV => ?_)
    clear hK K
    clear hU
    have hU := hV
    clear hV
    try simp only [Act.put, List.getElem_toArray, List.getElem_cons_zero, List.getElem_cons_succ, List.setIfInBounds_toArray, List.set_cons_zero, List.set_cons_succ]
    refine AnyU.take (i := 7) (v := ?_) rfl (by kernel_rfl) (by kernel_rfl) (by kernel_rfl) (fun _ _ _ h => h) (by kernel_rfl) (by assumption) (by rfl) ?_ (fun hV => ?_)
    rotate_left 1
    · (intro wq; go_simp; try with_reducible rfl)
    clear hU
    have hU := hV
    clear hV
    try simp only [Act.put, List.getElem_toArray, List.getElem_cons_zero, List.getElem_cons_succ, List.setIfInBounds_toArray, List.set_cons_zero, List.set_cons_succ]
    have z0 := BL.out.cell 0
    have y0 := BL.out.free 0
    have z1 := BL.out.cell 1
    have y1 := BL.out.free 1
    have z2 := BL.out.cell 2
    have y2 := BL.out.free 2
    have z3 := BL.out.cell 3
    have y3 := BL.out.free 3
    have z4 := BL.out.cell 4
    have y4 := BL.out.free 4
    have z5 := BL.out.cell 5
    have y5 := BL.out.free 5
    have z6 := BL.out.cell 6
    have y6 := BL.out.free 6
    have z7 := BL.out.cell 7
    have y7 := BL.out.free 7
    have z8 := BL.out.cell 8
    have y8 := BL.out.free 8
    have z9 := BL.out.cell 9
    have y9 := BL.out.free 9
    simp at z0 z1 z2 z3 z4 z5 z6 z7 z8 z9
    have ll := BL.out.lt
    refine AnyU.ready1 (i := 9) (by kernel_rfl) (AnyU.one rfl fun K hK => ?_)
    go_simp
    have r1 := put10h_full (.int .i64 1) (.string { data := #[109] }) (.string cc.name) (.int .i64 n.ty.kind) (.string n.ty.pkg) (.int .i64 n.ty.major) (.string n.ty.mod) (.string n.ty.name) (.slice na2 n.ty.names.length nc2) (.slice sa2 n.ty.subs.length sc2) BL.out
    have r2 := put10h_bel (.int .i64 1) (.string { data := #[109] }) (.string cc.name) (.int .i64 n.ty.kind) (.string n.ty.pkg) (.int .i64 n.ty.major) (.string n.ty.mod) (.string n.ty.name) (.slice na2 n.ty.names.length nc2) (.slice sa2 n.ty.subs.length sc2) BQ0.out HG12.out
    have r3 := fun b (hne : b ≠ W.heap.size) => put10h_heap (.int .i64 1) (.string { data := #[109] }) (.string cc.name) (.int .i64 n.ty.kind) (.string n.ty.pkg) (.int .i64 n.ty.major) (.string n.ty.mod) (.string n.ty.name) (.slice na2 n.ty.names.length nc2) (.slice sa2 n.ty.subs.length sc2) (w := wq) hne
    have r4 := put10h_size (.int .i64 1) (.string { data := #[109] }) (.string cc.name) (.int .i64 n.ty.kind) (.string n.ty.pkg) (.int .i64 n.ty.major) (.string n.ty.mod) (.string n.ty.name) (.slice na2 n.ty.names.length nc2) (.slice sa2 n.ty.subs.length sc2) (w := wq) (g := W.heap.size)
    generalize ((((((((((wq.setCell ⟨W.heap.size, 0, none⟩ (.int .i64 1)).setCell ⟨W.heap.size, 1, none⟩ (.string { data := #[109] })).setCell ⟨W.heap.size, 2, none⟩ (.string cc.name)).setCell ⟨W.heap.size, 3, none⟩ (.int .i64 n.ty.kind)).setCell ⟨W.heap.size, 4, none⟩ (.string n.ty.pkg)).setCell ⟨W.heap.size, 5, none⟩ (.int .i64 n.ty.major)).setCell ⟨W.heap.size, 6, none⟩ (.string n.ty.mod)).setCell ⟨W.heap.size, 7, none⟩ (.string n.ty.name)).setCell ⟨W.heap.size, 8, none⟩ (.slice na2 n.ty.names.length nc2)).setCell ⟨W.heap.size, 9, none⟩ (.slice sa2 n.ty.subs.length sc2)) = X9 at r1 r2 r3 r4 ⊢
    have hz9 : wq.heap.size ≤ X9.heap.size := by rw [r4]; exact Nat.le_refl _
    have BL9 := Lib.hid r1
    have BQ := Lib.hid r2
    have TM9 := Lib.hid (HTM.out.keep (w' := X9) fun p hp => World.cell?_of_block (r3 p.block (HMN.out p.block hp).1))
    have LT9 := Lib.hid (show X9.heap.size = wq.heap.size from r4)
    clear r1 r2 r3 r4 hz9 ll z0 y0 z1 y1 z2 y2 z3 y3 z4 y4 z5 y5 z6 y6 z7 y7 z8 y8 z9 y9
    refine hK.out _ _ (Until.off (by kernel_rfl)) (fun hV => ?_)
    clear hK K
    clear hU
    have hU := hV
    clear hV
    try simp only [Act.put, List.getElem_toArray, List.getElem_cons_zero, List.getElem_cons_succ, List.setIfInBounds_toArray, List.set_cons_zero, List.set_cons_succ]
    refine AnyU.done (by kernel_rfl) ?_
    clear hU
    have cf := (BQ.out.cell (p := ⟨bc, _, none⟩) lb8).trans HCF.out
    have lb9 := Nat.lt_of_lt_of_le lb8 BQ.out.size
    have BX9 := Lib.hid (BX8.out.under BQ.out BX8.out.lt)
    have D9 := Lib.hid (D8.out.under BQ.out D8.out.lt)
    have B9 := Lib.hid (B8.out.trans (BQ.out.mono B8.out.size))
    obtain ⟨o, ho⟩ : ∃ o, cc.ofType = o := ⟨_, rfl⟩
    have HOO := Lib.hid ho
    rw [ho] at cf ⊢
    clear ho
    cases o
    · go_upto_region 11 with fail
      have bl := BL9.out
      have bb := B9.out
      have bx := BX9.out
      have dd := D9.out
      have tm := TM9.out
      have lt := LT9.out
      generalize X9 = Xb at bl bb bx dd tm lt ⊢
      have hmb : ∀ b, _ → b < Xb.heap.size := fun b hb => by have := (HMN.out b hb).2; rw [lt]; exact this
      have HMb := Lib.hid hmb
      have BLb := Lib.hid bl
      have BBb := Lib.hid bb
      have BXb := Lib.hid bx
      have Db := Lib.hid dd
      have TYb := Lib.hid tm
      clear bl bb bx dd tm lt hmb cf lb9
      obtain ⟨n0, n1, n2, n3, n4⟩ := cellsN5 BXb.out
      have ln := BXb.out.lt
      go_upto_region 12 with fail
      clear n0 n1 n2 n3 n4 ln
      have ib := Blk.new Xb #[.string x.pkg, .int .i64 x.major, .string x.mod, .string { data := #[109] }] 63
      have hbi : Below Xb.heap.size Xb (Xb.alloc (.cells #[.string x.pkg, .int .i64 x.major, .string x.mod, .string { data := #[109] }] 63)) := (Below.refl _ _).alloc (Nat.le_refl _) _
      generalize Xb.alloc (.cells #[.string x.pkg, .int .i64 x.major, .string x.mod, .string { data := #[109] }] 63) = Xc at ib hbi ⊢
      generalize hgi : Xb.heap.size = gi at ib ⊢
      clear hgi
      have BLc := Lib.hid (BLb.out.under hbi BLb.out.lt)
      have BBc := Lib.hid (BBb.out.trans (hbi.mono BBb.out.size))
      have Dc := Lib.hid (Db.out.under hbi Db.out.lt)
      have TYc := Lib.hid (TYb.out.keep (w' := Xc) fun p hp => hbi.cell (HMb.out p.block hp))
      have HMc := Lib.hid (show ∀ b, _ → b < Xc.heap.size from fun b hb => Nat.lt_of_lt_of_le (HMb.out b hb) hbi.size)
      have IB := Lib.hid ib
      clear hbi ib
      obtain ⟨i0, i1, i2, i3⟩ := cellsC IB.out
      have li := IB.out.lt
      have z0 := BLc.out.cell 0
      have z1 := BLc.out.cell 1
      have z2 := BLc.out.cell 2
      have z3 := BLc.out.cell 3
      have z4 := BLc.out.cell 4
      have z5 := BLc.out.cell 5
      have z6 := BLc.out.cell 6
      have z7 := BLc.out.cell 7
      have z8 := BLc.out.cell 8
      have z9 := BLc.out.cell 9
      simp at z0 z1 z2 z3 z4 z5 z6 z7 z8 z9
      have ll := BLc.out.lt
      have d0 := Dc.out.cell 0
      have d1 := Dc.out.cell 1
      simp at d0 d1
      have fd0 := Dc.out.free 0
      have fd1 := Dc.out.free 1
      have ld := Dc.out.lt
      go_wp2_with fail
      have dz0 : Blk ((Xc.setCell ⟨w.heap.size, 0, none⟩ (.slice (some ⟨Xc.heap.size, 0, none⟩) 1 1)).setCell ⟨w.heap.size, 1, none⟩ (.slice (some ⟨Xc.heap.size + 1, 0, none⟩) 1 1)) w.heap.size #[(.slice (some ⟨Xc.heap.size, 0, none⟩) 1 1), (.slice (some ⟨Xc.heap.size + 1, 0, none⟩) 1 1)] 28 := by have := (Dc.out.set 0 (.slice (some ⟨Xc.heap.size, 0, none⟩) 1 1)).set 1 (.slice (some ⟨Xc.heap.size + 1, 0, none⟩) 1 1); simpa using this
      have hs0 : ((Xc.setCell ⟨w.heap.size, 0, none⟩ (.slice (some ⟨Xc.heap.size, 0, none⟩) 1 1)).setCell ⟨w.heap.size, 1, none⟩ (.slice (some ⟨Xc.heap.size + 1, 0, none⟩) 1 1)).heap.size = Xc.heap.size := (set_size _ _ _ _).trans (set_size _ _ _ _)
      have bS : Below w.heap.size w ((Xc.setCell ⟨w.heap.size, 0, none⟩ (.slice (some ⟨Xc.heap.size, 0, none⟩) 1 1)).setCell ⟨w.heap.size, 1, none⟩ (.slice (some ⟨Xc.heap.size + 1, 0, none⟩) 1 1)) := (BBc.out.setCell (p := ⟨w.heap.size, 0, none⟩) (Nat.le_refl _) _).setCell (p := ⟨w.heap.size, 1, none⟩) (Nat.le_refl _) _
      have tS := TYc.out.keep (w' := ((Xc.setCell ⟨w.heap.size, 0, none⟩ (.slice (some ⟨Xc.heap.size, 0, none⟩) 1 1)).setCell ⟨w.heap.size, 1, none⟩ (.slice (some ⟨Xc.heap.size + 1, 0, none⟩) 1 1))) fun p hp => (World.cell?_of_block ((set_heap _ _ _ _ (HNE.out p.block hp)).trans (set_heap _ _ _ _ (HNE.out p.block hp))))
      generalize ((Xc.setCell ⟨w.heap.size, 0, none⟩ (.slice (some ⟨Xc.heap.size, 0, none⟩) 1 1)).setCell ⟨w.heap.size, 1, none⟩ (.slice (some ⟨Xc.heap.size + 1, 0, none⟩) 1 1)) = X0 at dz0 hs0 bS tS ⊢
      obtain ⟨w1b, w2b, w3b, w4b⟩ := twoW X0 #[.string x.pkg, .int .i64 x.major, .string x.mod, .string { data := #[109] }] #[.int .i64 1, .string { data := #[109] }, .string cc.name, .int .i64 n.ty.kind, .string n.ty.pkg, .int .i64 n.ty.major, .string n.ty.mod, .string n.ty.name, .slice na2 n.ty.names.length nc2, .slice sa2 n.ty.subs.length sc2] 63 61
      have dz := dz0.under w4b dz0.lt
      have fb : Below w.heap.size w ((X0.alloc (.cells #[.string x.pkg, .int .i64 x.major, .string x.mod, .string { data := #[109] }] 63)).alloc (.cells #[.int .i64 1, .string { data := #[109] }, .string cc.name, .int .i64 n.ty.kind, .string n.ty.pkg, .int .i64 n.ty.major, .string n.ty.mod, .string n.ty.name, .slice na2 n.ty.names.length nc2, .slice sa2 n.ty.subs.length sc2] 61)) := bS.trans (w4b.mono bS.size)
      have ft := ((tS.keep (w' := ((X0.alloc (.cells #[.string x.pkg, .int .i64 x.major, .string x.mod, .string { data := #[109] }] 63)).alloc (.cells #[.int .i64 1, .string { data := #[109] }, .string cc.name, .int .i64 n.ty.kind, .string n.ty.pkg, .int .i64 n.ty.major, .string n.ty.mod, .string n.ty.name, .slice na2 n.ty.names.length nc2, .slice sa2 n.ty.subs.length sc2] 61))) fun p hp => w4b.cell (by rw [hs0]; exact HMc.out p.block hp)).mono fun b hb => (show b < (((X0.alloc (.cells #[.string x.pkg, .int .i64 x.major, .string x.mod, .string { data := #[109] }] 63)).alloc (.cells #[.int .i64 1, .string { data := #[109] }, .string cc.name, .int .i64 n.ty.kind, .string n.ty.pkg, .int .i64 n.ty.major, .string n.ty.mod, .string n.ty.name, .slice na2 n.ty.names.length nc2, .slice sa2 n.ty.subs.length sc2] 61))).heap.size by have := HMc.out b hb; rw [w3b, hs0]; omega)).toC
      have f1 := w1b
      have f2 := w2b
      rw [hs0] at f1 f2
      generalize ((X0.alloc (.cells #[.string x.pkg, .int .i64 x.major, .string x.mod, .string { data := #[109] }] 63)).alloc (.cells #[.int .i64 1, .string { data := #[109] }, .string cc.name, .int .i64 n.ty.kind, .string n.ty.pkg, .int .i64 n.ty.major, .string n.ty.mod, .string n.ty.name, .slice na2 n.ty.names.length nc2, .slice sa2 n.ty.subs.length sc2] 61)) = Wf at dz f1 f2 fb ft ⊢
      have r0 := dz.cell 0
      have r1 := dz.cell 1
      simp at r0 r1
      refine bodyPost_ret (by simp [results, Tryz.results6, go_sem, r0, r1, dz.lt]; try rfl) rfl ?_
      refine ⟨⟨_, rfl, Xc.heap.size, Xc.heap.size + 1, na2, nc2, sa2, sc2, rfl, f1, ?_, ?_⟩, fb⟩
      · show Blk Wf _ #[.int .i64 (if cc.ofType = true then 2 else 1), _, _, _, _, _, _, _, _, _] _
        rw [HOO.out]
        exact f2
      · exact ft
    · have z0 := BL9.out.cell 0
      have y0 := BL9.out.free 0
      have ll := BL9.out.lt
      simp at z0
      go_upto_region 11 with fail
      have bl : Blk (X9.setCell ⟨W.heap.size, 0, none⟩ (.int .i64 2)) W.heap.size #[.int .i64 2, .string { data := #[109] }, .string cc.name, .int .i64 n.ty.kind, .string n.ty.pkg, .int .i64 n.ty.major, .string n.ty.mod, .string n.ty.name, .slice na2 n.ty.names.length nc2, .slice sa2 n.ty.subs.length sc2] 61 := by have := BL9.out.set 0 (.int .i64 2); simpa using this
      have bb : Below w.heap.size w (X9.setCell ⟨W.heap.size, 0, none⟩ (.int .i64 2)) := B9.out.setCell (p := ⟨W.heap.size, 0, none⟩) (Nat.le_trans B8.out.size HG12.out) _
      have hnx : g10 ≠ W.heap.size := fun e => by have h1 := BX8.out.lt; have h2 := HG12.out; omega
      have hnd : w.heap.size ≠ W.heap.size := fun e => by have h1 := D8.out.lt; have h2 := HG12.out; omega
      have bx := BX9.out.far ⟨W.heap.size, 0, none⟩ (.int .i64 2) hnx
      have dd := D9.out.far ⟨W.heap.size, 0, none⟩ (.int .i64 2) hnd
      have tm := TM9.out.keep (w' := (X9.setCell ⟨W.heap.size, 0, none⟩ (.int .i64 2))) fun p hp => World.cell?_of_block (set_heap X9 W.heap.size 0 _ (HMN.out p.block hp).1)
      have lt : (X9.setCell ⟨W.heap.size, 0, none⟩ (.int .i64 2)).heap.size = wq.heap.size := (set_size _ _ _ _).trans LT9.out
      generalize (X9.setCell ⟨W.heap.size, 0, none⟩ (.int .i64 2)) = Xb at bl bb bx dd tm lt ⊢
      clear z0 y0 ll
      have hmb : ∀ b, _ → b < Xb.heap.size := fun b hb => by have := (HMN.out b hb).2; rw [lt]; exact this
      have HMb := Lib.hid hmb
      have BLb := Lib.hid bl
      have BBb := Lib.hid bb
      have BXb := Lib.hid bx
      have Db := Lib.hid dd
      have TYb := Lib.hid tm
      clear bl bb bx dd tm lt hmb cf lb9
      obtain ⟨n0, n1, n2, n3, n4⟩ := cellsN5 BXb.out
      have ln := BXb.out.lt
      go_upto_region 12 with fail
      clear n0 n1 n2 n3 n4 ln
      have ib := Blk.new Xb #[.string x.pkg, .int .i64 x.major, .string x.mod, .string { data := #[109] }] 63
      have hbi : Below Xb.heap.size Xb (Xb.alloc (.cells #[.string x.pkg, .int .i64 x.major, .string x.mod, .string { data := #[109] }] 63)) := (Below.refl _ _).alloc (Nat.le_refl _) _
      generalize Xb.alloc (.cells #[.string x.pkg, .int .i64 x.major, .string x.mod, .string { data := #[109] }] 63) = Xc at ib hbi ⊢
      generalize hgi : Xb.heap.size = gi at ib ⊢
      clear hgi
      have BLc := Lib.hid (BLb.out.under hbi BLb.out.lt)
      have BBc := Lib.hid (BBb.out.trans (hbi.mono BBb.out.size))
      have Dc := Lib.hid (Db.out.under hbi Db.out.lt)
      have TYc := Lib.hid (TYb.out.keep (w' := Xc) fun p hp => hbi.cell (HMb.out p.block hp))
      have HMc := Lib.hid (show ∀ b, _ → b < Xc.heap.size from fun b hb => Nat.lt_of_lt_of_le (HMb.out b hb) hbi.size)
      have IB := Lib.hid ib
      clear hbi ib
      obtain ⟨i0, i1, i2, i3⟩ := cellsC IB.out
      have li := IB.out.lt
      have z0 := BLc.out.cell 0
      have z1 := BLc.out.cell 1
      have z2 := BLc.out.cell 2
      have z3 := BLc.out.cell 3
      have z4 := BLc.out.cell 4
      have z5 := BLc.out.cell 5
      have z6 := BLc.out.cell 6
      have z7 := BLc.out.cell 7
      have z8 := BLc.out.cell 8
      have z9 := BLc.out.cell 9
      simp at z0 z1 z2 z3 z4 z5 z6 z7 z8 z9
      have ll := BLc.out.lt
      have d0 := Dc.out.cell 0
      have d1 := Dc.out.cell 1
      simp at d0 d1
      have fd0 := Dc.out.free 0
      have fd1 := Dc.out.free 1
      have ld := Dc.out.lt
      go_wp2_with fail
      have dz0 : Blk ((Xc.setCell ⟨w.heap.size, 0, none⟩ (.slice (some ⟨Xc.heap.size, 0, none⟩) 1 1)).setCell ⟨w.heap.size, 1, none⟩ (.slice (some ⟨Xc.heap.size + 1, 0, none⟩) 1 1)) w.heap.size #[(.slice (some ⟨Xc.heap.size, 0, none⟩) 1 1), (.slice (some ⟨Xc.heap.size + 1, 0, none⟩) 1 1)] 28 := by have := (Dc.out.set 0 (.slice (some ⟨Xc.heap.size, 0, none⟩) 1 1)).set 1 (.slice (some ⟨Xc.heap.size + 1, 0, none⟩) 1 1); simpa using this
      have hs0 : ((Xc.setCell ⟨w.heap.size, 0, none⟩ (.slice (some ⟨Xc.heap.size, 0, none⟩) 1 1)).setCell ⟨w.heap.size, 1, none⟩ (.slice (some ⟨Xc.heap.size + 1, 0, none⟩) 1 1)).heap.size = Xc.heap.size := (set_size _ _ _ _).trans (set_size _ _ _ _)
      have bS : Below w.heap.size w ((Xc.setCell ⟨w.heap.size, 0, none⟩ (.slice (some ⟨Xc.heap.size, 0, none⟩) 1 1)).setCell ⟨w.heap.size, 1, none⟩ (.slice (some ⟨Xc.heap.size + 1, 0, none⟩) 1 1)) := (BBc.out.setCell (p := ⟨w.heap.size, 0, none⟩) (Nat.le_refl _) _).setCell (p := ⟨w.heap.size, 1, none⟩) (Nat.le_refl _) _
      have tS := TYc.out.keep (w' := ((Xc.setCell ⟨w.heap.size, 0, none⟩ (.slice (some ⟨Xc.heap.size, 0, none⟩) 1 1)).setCell ⟨w.heap.size, 1, none⟩ (.slice (some ⟨Xc.heap.size + 1, 0, none⟩) 1 1))) fun p hp => (World.cell?_of_block ((set_heap _ _ _ _ (HNE.out p.block hp)).trans (set_heap _ _ _ _ (HNE.out p.block hp))))
      generalize ((Xc.setCell ⟨w.heap.size, 0, none⟩ (.slice (some ⟨Xc.heap.size, 0, none⟩) 1 1)).setCell ⟨w.heap.size, 1, none⟩ (.slice (some ⟨Xc.heap.size + 1, 0, none⟩) 1 1)) = X0 at dz0 hs0 bS tS ⊢
      obtain ⟨w1b, w2b, w3b, w4b⟩ := twoW X0 #[.string x.pkg, .int .i64 x.major, .string x.mod, .string { data := #[109] }] #[.int .i64 2, .string { data := #[109] }, .string cc.name, .int .i64 n.ty.kind, .string n.ty.pkg, .int .i64 n.ty.major, .string n.ty.mod, .string n.ty.name, .slice na2 n.ty.names.length nc2, .slice sa2 n.ty.subs.length sc2] 63 61
      have dz := dz0.under w4b dz0.lt
      have fb : Below w.heap.size w ((X0.alloc (.cells #[.string x.pkg, .int .i64 x.major, .string x.mod, .string { data := #[109] }] 63)).alloc (.cells #[.int .i64 2, .string { data := #[109] }, .string cc.name, .int .i64 n.ty.kind, .string n.ty.pkg, .int .i64 n.ty.major, .string n.ty.mod, .string n.ty.name, .slice na2 n.ty.names.length nc2, .slice sa2 n.ty.subs.length sc2] 61)) := bS.trans (w4b.mono bS.size)
      have ft := ((tS.keep (w' := ((X0.alloc (.cells #[.string x.pkg, .int .i64 x.major, .string x.mod, .string { data := #[109] }] 63)).alloc (.cells #[.int .i64 2, .string { data := #[109] }, .string cc.name, .int .i64 n.ty.kind, .string n.ty.pkg, .int .i64 n.ty.major, .string n.ty.mod, .string n.ty.name, .slice na2 n.ty.names.length nc2, .slice sa2 n.ty.subs.length sc2] 61))) fun p hp => w4b.cell (by rw [hs0]; exact HMc.out p.block hp)).mono fun b hb => (show b < (((X0.alloc (.cells #[.string x.pkg, .int .i64 x.major, .string x.mod, .string { data := #[109] }] 63)).alloc (.cells #[.int .i64 2, .string { data := #[109] }, .string cc.name, .int .i64 n.ty.kind, .string n.ty.pkg, .int .i64 n.ty.major, .string n.ty.mod, .string n.ty.name, .slice na2 n.ty.names.length nc2, .slice sa2 n.ty.subs.length sc2] 61))).heap.size by have := HMc.out b hb; rw [w3b, hs0]; omega)).toC
      have f1 := w1b
      have f2 := w2b
      rw [hs0] at f1 f2
      generalize ((X0.alloc (.cells #[.string x.pkg, .int .i64 x.major, .string x.mod, .string { data := #[109] }] 63)).alloc (.cells #[.int .i64 2, .string { data := #[109] }, .string cc.name, .int .i64 n.ty.kind, .string n.ty.pkg, .int .i64 n.ty.major, .string n.ty.mod, .string n.ty.name, .slice na2 n.ty.names.length nc2, .slice sa2 n.ty.subs.length sc2] 61)) = Wf at dz f1 f2 fb ft ⊢
      have r0 := dz.cell 0
      have r1 := dz.cell 1
      simp at r0 r1
      refine bodyPost_ret (by simp [results, Tryz.results6, go_sem, r0, r1, dz.lt]; try rfl) rfl ?_
      refine ⟨⟨_, rfl, Xc.heap.size, Xc.heap.size + 1, na2, nc2, sa2, sc2, rfl, f1, ?_, ?_⟩, fb⟩
      · show Blk Wf _ #[.int .i64 (if cc.ofType = true then 2 else 1), _, _, _, _, _, _, _, _, _] _
        rw [HOO.out]
        exact f2
      · exact ft
end Go.Proofs.YtbffijiecbfpnaaGreatDoor
