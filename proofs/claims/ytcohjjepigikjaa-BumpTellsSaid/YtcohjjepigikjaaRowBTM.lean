/- The statement BumpTells: for any rows of interfaces the law returns true and leaves its arguments as they were; no condition but the row's own (no ring among the inputs). -/
import Derived.Test.YtcohjjepigikjaaNamesF
import Derived.Test.YtcohjjepigikjaaRowsC
import Derived.Test.YtcohjjepigikjaaRefSubC
import Derived.Test.YtcohjjepigikjaaIfN
import Derived.Test.YtcohjjepigikjaaUnionP
import Derived.Test.YtcohjjepigikjaaRefOwn
import Derived.Laws.AppendOwnNone
import Derived.Test.YtcohjjepigikjaaOfC
import Derived.Test.YtcohjjepigikjaaChgC
import Derived.Test.YtcohjjepigikjaaRMay12
import Derived.Laws.StructEq
import Derived.Deep.QuietTactic
import Derived.Deep.Draws
import Derived.Test.YtcohjjepigikjaaFewC
import Derived.Test.YtcohjjepigikjaaRows
import Derived.Test.YtcohjjepigikjaaOpenIf
namespace Go.Proofs.Ytcohjjepigikjaa
open Go.RowKit
set_option linter.unusedSimpArgs false
set_option linter.unusedVariables false
/-- the place of a name; below 0: it is not there -/
def ofN (l : List Nm) (s : ByteArray) : Int := match l.findIdx? fun x => x.name.toList == s.toList with
  | some i => (i : Nat)
  | none => -1
theorem ofN_hit {l : List Nm} {s : ByteArray} {k : Nat} (hk : k < l.length) (h : ∀ i (h : i < l.length), i < k → (l[i].name.toList == s.toList) = false) (h2 : (l[k].name.toList == s.toList) = true) : ofN l s = (k : Nat) := by
  have : l.findIdx? (fun x => x.name.toList == s.toList) = some k := by
    rw [List.findIdx?_eq_some_iff_getElem]
    exact ⟨hk, h2, fun j hj => by simp [h j (by omega) hj]⟩
  rw [ofN, this]
theorem ofN_miss {l : List Nm} {s : ByteArray} (h : ∀ i (h : i < l.length), (l[i].name.toList == s.toList) = false) : ofN l s = -1 := by
  have : l.findIdx? (fun x => x.name.toList == s.toList) = none := by
    rw [List.findIdx?_eq_none_iff]
    intro x hx
    obtain ⟨i, hi, rfl⟩ := List.getElem_of_mem hx
    exact h i hi
  rw [ofN, this]
set_option maxHeartbeats 4000000 in
theorem refOfN_c (A : Option Addr) (c B : Nat) (l : List Nm) (s : ByteArray) (w : World) (h1 : NmsAt w B A l) (hB : B ≤ w.heap.size) (hl : l.length ≤ 1000) :
    Calls Try.prog 38 #[.slice A l.length c, .string s] w fun e w' => e = .returned (.int .i64 (ofN l s)) ∧ w' = w := by
  obtain ⟨q, hq⟩ : ∃ q, ofN l s = q := ⟨_, rfl⟩
  rw [hq]
  have HQ := Lib.hid hq
  have H1 := Lib.hid h1
  clear h1 hq
  go_enter Try.func38, Try.ntmps38
  go_wp2_with fail
  go_loop [5] (fun i => ∃ k : Nat, i = .int .i64 k ∧ k ≤ l.length ∧ ∀ i (h : i < l.length), i < k → (l[i].name.toList == s.toList) = false) (fun i => l.length - (intOf i).toNat)
  case atStart => exact ⟨0, rfl, Nat.zero_le _, fun i _ hi => absurd hi (by omega)⟩
  case round =>
    obtain ⟨k, rfl, hk, hall⟩ := hrel
    have HA := Lib.hid hall
    clear hall
    by_cases hlt : k < l.length
    · have hltI : (k : Int) < (l.length : Int) := by omega
      obtain ⟨x, hx⟩ : ∃ x, l[k] = x := ⟨_, rfl⟩
      obtain ⟨hns, b, o, na, nc, sa, sc, rfl, hbB, hty, c0, -⟩ := H1.out.elem hlt hx
      have hbw : b < w.heap.size := by omega
      have HX := Lib.hid hx
      obtain ⟨t, ht⟩ : ∃ t, (x.name.toList == s.toList) = t := ⟨_, rfl⟩
      have HT := Lib.hid ht
      clear hx
      cases t
      · go_wp2_with fail
        exact ⟨⟨k + 1, by go_num, by omega, fun i hi hik => by
          by_cases e : i = k
          · subst e; rw [HX.out]; exact HT.out
          · exact HA.out i hi (by omega)⟩, by simp [intOf]; omega⟩
      · have hr := HQ.out.symm.trans (ofN_hit hlt HA.out (by rw [HX.out]; exact HT.out))
        subst hr
        go_wp2_with fail
        go_ret
        exact ⟨rfl, rfl⟩
    · obtain rfl : k = l.length := by omega
      have hltI : ¬ (l.length : Int) < (l.length : Int) := by omega
      have hr := HQ.out.symm.trans (ofN_miss fun i hi => HA.out i hi hi)
      subst hr
      go_wp2_with fail
      go_ret
      exact ⟨rfl, rfl⟩
/-- the types, or the values, of a module -/
def selF (x : If) (o : Bool) : List Nm := if o = true then x.types else x.vals
set_option maxHeartbeats 4000000 in
theorem refRow_c (A : Option Addr) (c B : Nat) (l : List If) (s : ByteArray) (o : Bool) (w : World) (h1 : IfsAt w B A l) (hB : B ≤ w.heap.size) (hl : l.length ≤ 1000) :
    Calls Try.prog 23 #[.slice A l.length c, .string s, .bool o] w fun e w' => ∃ A2 c2, e = .returned (.slice A2 (selF ((firstIface l s).getD zIf) o).length c2) ∧ NmsAt w B A2 (selF ((firstIface l s).getD zIf) o) ∧ w' = w := by
  obtain ⟨f, hf⟩ : ∃ f, firstIface l s = f := ⟨_, rfl⟩
  simp only [hf]
  have HF := Lib.hid hf
  have H1 := Lib.hid h1
  clear h1 hf
  go_enter Try.func23, Try.ntmps23
  go_wp2_with fail
  go_loop [7] (fun i => ∃ k : Nat, i = .int .i64 k ∧ k ≤ l.length ∧ ∀ i (h : i < l.length), i < k → (l[i].mod.toList == s.toList) = false) (fun i => l.length - (intOf i).toNat)
  case atStart => exact ⟨0, rfl, Nat.zero_le _, fun i _ hi => absurd hi (by omega)⟩
  case round =>
    obtain ⟨k, rfl, hk, hall⟩ := hrel
    have HA := Lib.hid hall
    clear hall
    by_cases hlt : k < l.length
    · have hltI : (k : Int) < (l.length : Int) := by omega
      obtain ⟨x, hx⟩ : ∃ x, l[k] = x := ⟨_, rfl⟩
      obtain ⟨fx, b, p, ta, tc, va, vc, rfl, hbB, hT, hV, htc, hvc, c0, c1, c2, c3, c4⟩ := H1.out.elem hlt hx
      have hbw : b < w.heap.size := by omega
      have HX := Lib.hid hx
      have HTT := Lib.hid hT
      have HVV := Lib.hid hV
      obtain ⟨t, ht⟩ : ∃ t, (x.mod.toList == s.toList) = t := ⟨_, rfl⟩
      have HT := Lib.hid ht
      clear hx hT hV c0 c1 fx
      cases t
      · cases o
        all_goals
          go_wp2_with fail
          exact ⟨⟨k + 1, by go_num, by omega, fun i hi hik => by
            by_cases e : i = k
            · subst e; rw [HX.out]; exact HT.out
            · exact HA.out i hi (by omega)⟩, by simp [intOf]; omega⟩
      · have hr := HF.out.symm.trans (find_first hlt (fun i hi => HA.out i (by omega) hi) (by rw [HX.out]; exact HT.out))
        subst hr
        cases o
        · go_wp2_with fail
          go_ret
          refine ⟨va, ⟨vc, ?_⟩, ?_, rfl⟩
          · rw [HX.out]; rfl
          · rw [HX.out]; exact HVV.out
        · go_wp2_with fail
          go_ret
          refine ⟨ta, ⟨tc, ?_⟩, ?_, rfl⟩
          · rw [HX.out]; rfl
          · rw [HX.out]; exact HTT.out
    · obtain rfl : k = l.length := by omega
      have hltI : ¬ (l.length : Int) < (l.length : Int) := by omega
      have hr := HF.out.symm.trans (find_none' fun i hi => HA.out i hi hi)
      subst hr
      go_wp2_with fail
      go_ret
      have e : selF zIf o = [] := by cases o <;> rfl
      refine ⟨none, ⟨0, ?_⟩, ?_, rfl⟩
      · simp [e]
      · simp only [Option.getD_none, e]; exact NmsAt.nil _ _ _
end Go.Proofs.Ytcohjjepigikjaa
namespace Go.Proofs.Ytcohjjepigikjaa
open Go.RowKit
set_option linter.unusedSimpArgs false
set_option linter.unusedVariables false
theorem ofN_none {l : List Nm} {s : ByteArray} (h : firstNamed l s = none) : ofN l s = -1 := by
  refine ofN_miss fun i hi => ?_
  have := List.find?_eq_none.1 h l[i] (List.getElem_mem hi)
  simpa using this
theorem ofN_some {l : List Nm} {s : ByteArray} {x : Nm} (h : firstNamed l s = some x) : ∃ k : Nat, ∃ hk : k < l.length, l[k] = x ∧ ofN l s = (k : Nat) := by
  obtain ⟨hx, i, hi, he, hall⟩ := List.find?_eq_some_iff_getElem.1 h
  refine ⟨i, hi, he, ofN_hit hi (fun j hj hji => ?_) (by rw [he]; exact hx)⟩
  have := hall j hji
  simpa using this
theorem turnF_plain {a b : Ty} {o : Bool} (ha : PlainB a = true) (hb : PlainB b = true) : turnF a b o = if alikeT a b = true then 0 else if o = true ∨ subF 32 b a = false then 2 else 3 := by
  have e1 : sameB a b = alikeT a b := by rw [sameB, plain_may ha, plain_may hb, Bool.true_and, Bool.true_and]
  have e2 : SubB b a = subF 32 b a := by rw [SubB, ha, hb]; simp
  rw [turnF, e1, e2]
set_option maxRecDepth 100000 in
set_option maxHeartbeats 40000000 in
theorem one_c (A A' : Option Addr) (c c' B : Nat) (a b : List Nm) (s : ByteArray) (o : Bool) (w : World) (h1 : NmsAt w B A a) (h2 : NmsAt w B A' b) (hB : B ≤ w.heap.size) (hl : a.length ≤ 1000) (hl' : b.length ≤ 1000)
    (pa : ∀ x ∈ a, PlainB x.ty = true) (pb : ∀ x ∈ b, PlainB x.ty = true) :
    Calls Try.prog 24 #[.slice A a.length c, .slice A' b.length c', .string s, .bool o] w fun e w' => e = .returned (.int .i64 (kindF a b s o)) ∧ Below w.heap.size w w' := by
  have HOA := Lib.hid (refOfN_c A c B a s w h1 hB hl)
  have HOB := Lib.hid (refOfN_c A' c' B b s w h2 hB hl')
  obtain ⟨R, hR⟩ : ∃ R, kindF a b s o = R := ⟨_, rfl⟩
  rw [hR]
  cases fa : firstNamed a s with
  | none =>
    rw [ofN_none fa] at HOA
    obtain ⟨q, hq⟩ : ∃ q, ofN b s = q := ⟨_, rfl⟩
    rw [hq] at HOB
    obtain rfl : R = 4 := by rw [← hR, kindF, fa]; rfl
    clear h1 h2 hR fa hq pa pb hl hl'
    go_enter Try.func24, Try.ntmps24
    go_upto_region 2 with (go_at_call 38; refine HOA.out.mono ?_; rintro e wz ⟨rfl, hwz⟩; obtain rfl := hwz)
    go_upto_region 3 with (go_at_call 38; refine HOB.out.mono ?_; rintro e wz ⟨rfl, hwz⟩; obtain rfl := hwz)
    go_wp2_with fail
    go_ret
    exact ⟨rfl, Below.refl _ _⟩
  | some x =>
    obtain ⟨i, hi, hx, ei⟩ := ofN_some fa
    rw [ei] at HOA
    cases fb : firstNamed b s with
    | none =>
      rw [ofN_none fb] at HOB
      obtain rfl : R = 1 := by rw [← hR, kindF, fa, fb]; rfl
      have hiI : ¬ ((i : Nat) : Int) < 0 := by omega
      clear h1 h2 hR fa fb hx ei pa pb hi hl hl'
      go_enter Try.func24, Try.ntmps24
      go_upto_region 2 with (go_at_call 38; refine HOA.out.mono ?_; rintro e wz ⟨rfl, hwz⟩; obtain rfl := hwz)
      go_upto_region 3 with (go_at_call 38; refine HOB.out.mono ?_; rintro e wz ⟨rfl, hwz⟩; obtain rfl := hwz)
      go_wp2_with fail
      go_ret
      exact ⟨rfl, Below.refl _ _⟩
    | some y =>
      obtain ⟨k, hk, hy, ek⟩ := ofN_some fb
      rw [ek] at HOB
      have px : PlainB x.ty = true := pa x (by rw [← hx]; exact List.getElem_mem hi)
      have py : PlainB y.ty = true := pb y (by rw [← hy]; exact List.getElem_mem hk)
      have hr : (if alikeT x.ty y.ty = true then (0 : Int) else if o = true ∨ subF 32 y.ty x.ty = false then 2 else 3) = R := by rw [← turnF_plain px py, ← hR, kindF, fa, fb]; rfl
      obtain ⟨-, bx, ox, na, nc, sa, sc, rfl, hbxB, tx, -, x1, x2, x3, x4, x5, x6, x7⟩ := h1.elem hi hx
      obtain ⟨-, by_, oy, na', nc', sa', sc', rfl, hbyB, ty, -, y1, y2, y3, y4, y5, y6, y7⟩ := h2.elem hk hy
      have hbx : bx < w.heap.size := by omega
      have hby : by_ < w.heap.size := by omega
      have HSM := fun w ha hb hB => rSame_c x.ty y.ty (tyCells x.ty na nc sa sc) (tyCells y.ty na' nc' sa' sc') B w ha hb hB
      obtain ⟨al, hal⟩ : ∃ v, alikeT x.ty y.ty = v := ⟨_, rfl⟩
      obtain ⟨sb, hsb⟩ : ∃ v, subF 32 y.ty x.ty = v := ⟨_, rfl⟩
      have HSB := fun w hb ha hB => hsb ▸ refSub_c 32 y.ty x.ty (tyCells y.ty na' nc' sa' sc') (tyCells x.ty na nc sa sc) B w hb ha hB (plain_may py) (plain_may px) (may_deep (plain_may py)) (may_deep (plain_may px))
      rw [hal, hsb] at hr
      simp only [hal, tyCells] at HSM
      simp only [tyCells] at HSB
      have HS := Lib.hid HSM
      have HU := Lib.hid HSB
      have TX := Lib.hid tx
      have TY := Lib.hid ty
      simp only [tyCells] at TX TY
      have HRR := Lib.hid hr
      have HB := Lib.hid hB
      have hiI : ((i : Nat) : Int) < (a.length : Int) := by omega
      have hkI : ((k : Nat) : Int) < (b.length : Int) := by omega
      have hiN : ¬ ((i : Nat) : Int) < 0 := by omega
      have hkN : ¬ ((k : Nat) : Int) < 0 := by omega
      have hi0 : 0 ≤ ((i : Nat) : Int) := by omega
      have hk0 : 0 ≤ ((k : Nat) : Int) := by omega
      have A0 := Lib.hid (Below.refl w.heap.size w)
      clear h1 h2 hR fa fb ei ek pa pb px py hal hsb HSM HSB tx ty hr hx hy
      go_enter Try.func24, Try.ntmps24
      go_upto_region 2 with (go_at_call 38; refine HOA.out.mono ?_; rintro e wz ⟨rfl, hwz⟩; obtain rfl := hwz)
      go_upto_region 3 with (go_at_call 38; refine HOB.out.mono ?_; rintro e wz ⟨rfl, hwz⟩; obtain rfl := hwz)
      clear HOA HOB
      go_upto_region 7 with fail
      refine wp_region_until [(10, fun w' => w'.cell? ⟨bx, ox + i * 8 + 1, none⟩ = some (.int .i64 x.ty.kind) ∧ w'.cell? ⟨bx, ox + i * 8 + 2, none⟩ = some (.string x.ty.pkg) ∧ w'.cell? ⟨bx, ox + i * 8 + 3, none⟩ = some (.int .i64 x.ty.major) ∧ w'.cell? ⟨bx, ox + i * 8 + 4, none⟩ = some (.string x.ty.mod) ∧ w'.cell? ⟨bx, ox + i * 8 + 5, none⟩ = some (.string x.ty.name) ∧ w'.cell? ⟨bx, ox + i * 8 + 6, none⟩ = some (.slice na x.ty.names.length nc) ∧ w'.cell? ⟨bx, ox + i * 8 + 7, none⟩ = some (.slice sa x.ty.subs.length sc)), (10, fun w' => w'.cell? ⟨by_, oy + k * 8 + 1, none⟩ = some (.int .i64 y.ty.kind) ∧ w'.cell? ⟨by_, oy + k * 8 + 2, none⟩ = some (.string y.ty.pkg) ∧ w'.cell? ⟨by_, oy + k * 8 + 3, none⟩ = some (.int .i64 y.ty.major) ∧ w'.cell? ⟨by_, oy + k * 8 + 4, none⟩ = some (.string y.ty.mod) ∧ w'.cell? ⟨by_, oy + k * 8 + 5, none⟩ = some (.string y.ty.name) ∧ w'.cell? ⟨by_, oy + k * 8 + 6, none⟩ = some (.slice na' y.ty.names.length nc') ∧ w'.cell? ⟨by_, oy + k * 8 + 7, none⟩ = some (.slice sa' y.ty.subs.length sc'))] (by kernel_rfl) (Until.cons (fun _ => ⟨x1, x2, x3, x4, x5, x6, x7⟩) (Until.cons (fun _ => ⟨y1, y2, y3, y4, y5, y6, y7⟩) Until.nil)) (fun hU => ?_)
      refine AnyU.take (i := 0) (v := ?_) rfl (by kernel_rfl) (by kernel_rfl) (by kernel_rfl) (fun _ _ _ h => h) (by kernel_rfl) (by assumption) (by rfl) ?_ (fun hV => ?_)
      rotate_left 1
      · (intro wq; go_simp; try with_reducible rfl)
      clear hU
      have hU := hV
      clear hV
      try simp only [Act.put, List.getElem_toArray, List.getElem_cons_zero, List.getElem_cons_succ, List.setIfInBounds_toArray, List.set_cons_zero, List.set_cons_succ]
      refine AnyU.take (i := 1) (v := ?_) rfl (by kernel_rfl) (by kernel_rfl) (by kernel_rfl) (fun _ _ _ h => h) (by kernel_rfl) (by assumption) (by rfl) ?_ (fun hV => ?_)
      rotate_left 1
      · (intro wq; go_simp; try with_reducible rfl)
      clear hU
      have hU := hV
      clear hV
      try simp only [Act.put, List.getElem_toArray, List.getElem_cons_zero, List.getElem_cons_succ, List.setIfInBounds_toArray, List.set_cons_zero, List.set_cons_succ]
      refine AnyU.take (i := 2) (v := ?_) rfl (by kernel_rfl) (by kernel_rfl) (by kernel_rfl) (fun _ _ _ h => h) (by kernel_rfl) (by assumption) (by rfl) ?_ (fun hV => ?_)
      rotate_left 1
      · (intro wq; go_simp; try with_reducible rfl)
      clear hU
      have hU := hV
      clear hV
      try simp only [Act.put, List.getElem_toArray, List.getElem_cons_zero, List.getElem_cons_succ, List.setIfInBounds_toArray, List.set_cons_zero, List.set_cons_succ]
      refine AnyU.take (i := 3) (v := ?_) rfl (by kernel_rfl) (by kernel_rfl) (by kernel_rfl) (fun _ _ _ h => h) (by kernel_rfl) (by assumption) (by rfl) ?_ (fun hV => ?_)
      rotate_left 1
      · (intro wq; go_simp; try with_reducible rfl)
      clear hU
      have hU := hV
      clear hV
      try simp only [Act.put, List.getElem_toArray, List.getElem_cons_zero, List.getElem_cons_succ, List.setIfInBounds_toArray, List.set_cons_zero, List.set_cons_succ]
      refine AnyU.loadc (i := 4) (d := 10) [10] (Si := fun w' => w'.cell? ⟨bx, ox + i * 8 + 1, none⟩ = some (.int .i64 x.ty.kind) ∧ w'.cell? ⟨bx, ox + i * 8 + 2, none⟩ = some (.string x.ty.pkg) ∧ w'.cell? ⟨bx, ox + i * 8 + 3, none⟩ = some (.int .i64 x.ty.major) ∧ w'.cell? ⟨bx, ox + i * 8 + 4, none⟩ = some (.string x.ty.mod) ∧ w'.cell? ⟨bx, ox + i * 8 + 5, none⟩ = some (.string x.ty.name) ∧ w'.cell? ⟨bx, ox + i * 8 + 6, none⟩ = some (.slice na x.ty.names.length nc) ∧ w'.cell? ⟨bx, ox + i * 8 + 7, none⟩ = some (.slice sa x.ty.subs.length sc)) (v := ?_) rfl (by kernel_rfl) (by kernel_rfl) (by kernel_rfl) (fun _ _ _ h => h) (by kernel_rfl) (by assumption) (by kernel_rfl) rfl (by simp) (by rfl) ?_ (fun hV => ?_)
      rotate_left 1
      · (intro wq hq; obtain ⟨u1, u2, u3, u4, u5, u6, u7⟩ := hq; go_simp; try with_reducible rfl)
      clear hU
      have hU := hV
      clear hV
      try simp only [Act.put, List.getElem_toArray, List.getElem_cons_zero, List.getElem_cons_succ, List.setIfInBounds_toArray, List.set_cons_zero, List.set_cons_succ]
      refine AnyU.take (i := 5) (v := ?_) rfl (by kernel_rfl) (by kernel_rfl) (by kernel_rfl) (fun _ _ _ h => h) (by kernel_rfl) (by assumption) (by rfl) ?_ (fun hV => ?_)
      rotate_left 1
      · (intro wq; go_simp; try with_reducible rfl)
      clear hU
      have hU := hV
      clear hV
      try simp only [Act.put, List.getElem_toArray, List.getElem_cons_zero, List.getElem_cons_succ, List.setIfInBounds_toArray, List.set_cons_zero, List.set_cons_succ]
      refine AnyU.take (i := 6) (v := ?_) rfl (by kernel_rfl) (by kernel_rfl) (by kernel_rfl) (fun _ _ _ h => h) (by kernel_rfl) (by assumption) (by rfl) ?_ (fun hV => ?_)
      rotate_left 1
      · (intro wq; go_simp; try with_reducible rfl)
      clear hU
      have hU := hV
      clear hV
      try simp only [Act.put, List.getElem_toArray, List.getElem_cons_zero, List.getElem_cons_succ, List.setIfInBounds_toArray, List.set_cons_zero, List.set_cons_succ]
      refine AnyU.take (i := 7) (v := ?_) rfl (by kernel_rfl) (by kernel_rfl) (by kernel_rfl) (fun _ _ _ h => h) (by kernel_rfl) (by assumption) (by rfl) ?_ (fun hV => ?_)
      rotate_left 1
      · (intro wq; go_simp; try with_reducible rfl)
      clear hU
      have hU := hV
      clear hV
      try simp only [Act.put, List.getElem_toArray, List.getElem_cons_zero, List.getElem_cons_succ, List.setIfInBounds_toArray, List.set_cons_zero, List.set_cons_succ]
      refine AnyU.take (i := 8) (v := ?_) rfl (by kernel_rfl) (by kernel_rfl) (by kernel_rfl) (fun _ _ _ h => h) (by kernel_rfl) (by assumption) (by rfl) ?_ (fun hV => ?_)
      rotate_left 1
      · (intro wq; go_simp; try with_reducible rfl)
      clear hU
      have hU := hV
      clear hV
      try simp only [Act.put, List.getElem_toArray, List.getElem_cons_zero, List.getElem_cons_succ, List.setIfInBounds_toArray, List.set_cons_zero, List.set_cons_succ]
      refine AnyU.loadc (i := 9) (d := 10) [10] (Si := fun w' => w'.cell? ⟨by_, oy + k * 8 + 1, none⟩ = some (.int .i64 y.ty.kind) ∧ w'.cell? ⟨by_, oy + k * 8 + 2, none⟩ = some (.string y.ty.pkg) ∧ w'.cell? ⟨by_, oy + k * 8 + 3, none⟩ = some (.int .i64 y.ty.major) ∧ w'.cell? ⟨by_, oy + k * 8 + 4, none⟩ = some (.string y.ty.mod) ∧ w'.cell? ⟨by_, oy + k * 8 + 5, none⟩ = some (.string y.ty.name) ∧ w'.cell? ⟨by_, oy + k * 8 + 6, none⟩ = some (.slice na' y.ty.names.length nc') ∧ w'.cell? ⟨by_, oy + k * 8 + 7, none⟩ = some (.slice sa' y.ty.subs.length sc')) (v := ?_) rfl (by kernel_rfl) (by kernel_rfl) (by kernel_rfl) (fun _ _ _ h => h) (by kernel_rfl) (by assumption) (by kernel_rfl) rfl (by simp) (by rfl) ?_ (fun hV => ?_)
      rotate_left 1
      · (intro wq hq; obtain ⟨u1, u2, u3, u4, u5, u6, u7⟩ := hq; go_simp; try with_reducible rfl)
      clear hU
      have hU := hV
      clear hV
      try simp only [Act.put, List.getElem_toArray, List.getElem_cons_zero, List.getElem_cons_succ, List.setIfInBounds_toArray, List.set_cons_zero, List.set_cons_succ]
      refine AnyU.ready1 (i := 10) (by kernel_rfl) (AnyU.one rfl fun K hK => ?_)
      go_simp
      go_at_call 39
      refine (HS.out (World.drew _) (TX.out.keep fun _ _ => rfl) (TY.out.keep fun _ _ => rfl) HB.out).mono ?_
      rintro e yw1 ⟨rfl, hb⟩
      have A1 := Lib.hid (A0.out.drew.trans (hb.mono A0.out.drew.size))
      clear hb
      refine hK.out _ _ (Until.cons (fun h => absurd h (by decide)) (Until.cons (fun h => absurd h (by decide)) Until.nil)) (fun hV => ?_)
      clear hK K
      clear hU
      have hU := hV
      clear hV
      try simp only [Act.put, List.getElem_toArray, List.getElem_cons_zero, List.getElem_cons_succ, List.setIfInBounds_toArray, List.set_cons_zero, List.set_cons_succ]
      refine AnyU.ready1 (i := 11) (by kernel_rfl) (AnyU.one rfl fun K hK => ?_)
      go_simp
      refine hK.out _ _ (Until.off (by kernel_rfl)) (fun hV => ?_)
      clear hK K
      clear hU
      have hU := hV
      clear hV
      try simp only [Act.put, List.getElem_toArray, List.getElem_cons_zero, List.getElem_cons_succ, List.setIfInBounds_toArray, List.set_cons_zero, List.set_cons_succ]
      refine AnyU.done (by kernel_rfl) ?_
      cases al
      rotate_left
      · obtain rfl : R = 0 := by rw [← HRR.out]; rfl
        go_wp2_with fail
        go_ret
        exact ⟨rfl, A1.out⟩
      go_upto_region 10 with fail
      refine wp_region_until [(10, fun w' => w'.cell? ⟨by_, oy + k * 8 + 1, none⟩ = some (.int .i64 y.ty.kind) ∧ w'.cell? ⟨by_, oy + k * 8 + 2, none⟩ = some (.string y.ty.pkg) ∧ w'.cell? ⟨by_, oy + k * 8 + 3, none⟩ = some (.int .i64 y.ty.major) ∧ w'.cell? ⟨by_, oy + k * 8 + 4, none⟩ = some (.string y.ty.mod) ∧ w'.cell? ⟨by_, oy + k * 8 + 5, none⟩ = some (.string y.ty.name) ∧ w'.cell? ⟨by_, oy + k * 8 + 6, none⟩ = some (.slice na' y.ty.names.length nc') ∧ w'.cell? ⟨by_, oy + k * 8 + 7, none⟩ = some (.slice sa' y.ty.subs.length sc')), (10, fun w' => w'.cell? ⟨bx, ox + i * 8 + 1, none⟩ = some (.int .i64 x.ty.kind) ∧ w'.cell? ⟨bx, ox + i * 8 + 2, none⟩ = some (.string x.ty.pkg) ∧ w'.cell? ⟨bx, ox + i * 8 + 3, none⟩ = some (.int .i64 x.ty.major) ∧ w'.cell? ⟨bx, ox + i * 8 + 4, none⟩ = some (.string x.ty.mod) ∧ w'.cell? ⟨bx, ox + i * 8 + 5, none⟩ = some (.string x.ty.name) ∧ w'.cell? ⟨bx, ox + i * 8 + 6, none⟩ = some (.slice na x.ty.names.length nc) ∧ w'.cell? ⟨bx, ox + i * 8 + 7, none⟩ = some (.slice sa x.ty.subs.length sc))] (by kernel_rfl) (Until.cons (fun _ => ⟨(A1.out.cell (p := ⟨by_, _, none⟩) hby).trans y1, (A1.out.cell (p := ⟨by_, _, none⟩) hby).trans y2, (A1.out.cell (p := ⟨by_, _, none⟩) hby).trans y3, (A1.out.cell (p := ⟨by_, _, none⟩) hby).trans y4, (A1.out.cell (p := ⟨by_, _, none⟩) hby).trans y5, (A1.out.cell (p := ⟨by_, _, none⟩) hby).trans y6, (A1.out.cell (p := ⟨by_, _, none⟩) hby).trans y7⟩) (Until.cons (fun _ => ⟨(A1.out.cell (p := ⟨bx, _, none⟩) hbx).trans x1, (A1.out.cell (p := ⟨bx, _, none⟩) hbx).trans x2, (A1.out.cell (p := ⟨bx, _, none⟩) hbx).trans x3, (A1.out.cell (p := ⟨bx, _, none⟩) hbx).trans x4, (A1.out.cell (p := ⟨bx, _, none⟩) hbx).trans x5, (A1.out.cell (p := ⟨bx, _, none⟩) hbx).trans x6, (A1.out.cell (p := ⟨bx, _, none⟩) hbx).trans x7⟩) Until.nil)) (fun hU => ?_)
      refine AnyU.take (i := 0) (v := ?_) rfl (by kernel_rfl) (by kernel_rfl) (by kernel_rfl) (fun _ _ _ h => h) (by kernel_rfl) (by assumption) (by rfl) ?_ (fun hV => ?_)
      rotate_left 1
      · (intro wq; go_simp; try with_reducible rfl)
      clear hU
      have hU := hV
      clear hV
      try simp only [Act.put, List.getElem_toArray, List.getElem_cons_zero, List.getElem_cons_succ, List.setIfInBounds_toArray, List.set_cons_zero, List.set_cons_succ]
      refine AnyU.take (i := 1) (v := ?_) rfl (by kernel_rfl) (by kernel_rfl) (by kernel_rfl) (fun _ _ _ h => h) (by kernel_rfl) (by assumption) (by rfl) ?_ (fun hV => ?_)
      rotate_left 1
      · (intro wq; go_simp; try with_reducible rfl)
      clear hU
      have hU := hV
      clear hV
      try simp only [Act.put, List.getElem_toArray, List.getElem_cons_zero, List.getElem_cons_succ, List.setIfInBounds_toArray, List.set_cons_zero, List.set_cons_succ]
      refine AnyU.take (i := 2) (v := ?_) rfl (by kernel_rfl) (by kernel_rfl) (by kernel_rfl) (fun _ _ _ h => h) (by kernel_rfl) (by assumption) (by rfl) ?_ (fun hV => ?_)
      rotate_left 1
      · (intro wq; go_simp; try with_reducible rfl)
      clear hU
      have hU := hV
      clear hV
      try simp only [Act.put, List.getElem_toArray, List.getElem_cons_zero, List.getElem_cons_succ, List.setIfInBounds_toArray, List.set_cons_zero, List.set_cons_succ]
      refine AnyU.take (i := 3) (v := ?_) rfl (by kernel_rfl) (by kernel_rfl) (by kernel_rfl) (fun _ _ _ h => h) (by kernel_rfl) (by assumption) (by rfl) ?_ (fun hV => ?_)
      rotate_left 1
      · (intro wq; go_simp; try with_reducible rfl)
      clear hU
      have hU := hV
      clear hV
      try simp only [Act.put, List.getElem_toArray, List.getElem_cons_zero, List.getElem_cons_succ, List.setIfInBounds_toArray, List.set_cons_zero, List.set_cons_succ]
      refine AnyU.loadc (i := 4) (d := 10) [10] (Si := fun w' => w'.cell? ⟨by_, oy + k * 8 + 1, none⟩ = some (.int .i64 y.ty.kind) ∧ w'.cell? ⟨by_, oy + k * 8 + 2, none⟩ = some (.string y.ty.pkg) ∧ w'.cell? ⟨by_, oy + k * 8 + 3, none⟩ = some (.int .i64 y.ty.major) ∧ w'.cell? ⟨by_, oy + k * 8 + 4, none⟩ = some (.string y.ty.mod) ∧ w'.cell? ⟨by_, oy + k * 8 + 5, none⟩ = some (.string y.ty.name) ∧ w'.cell? ⟨by_, oy + k * 8 + 6, none⟩ = some (.slice na' y.ty.names.length nc') ∧ w'.cell? ⟨by_, oy + k * 8 + 7, none⟩ = some (.slice sa' y.ty.subs.length sc')) (v := ?_) rfl (by kernel_rfl) (by kernel_rfl) (by kernel_rfl) (fun _ _ _ h => h) (by kernel_rfl) (by assumption) (by kernel_rfl) rfl (by simp) (by rfl) ?_ (fun hV => ?_)
      rotate_left 1
      · (intro wq hq; obtain ⟨u1, u2, u3, u4, u5, u6, u7⟩ := hq; go_simp; try with_reducible rfl)
      clear hU
      have hU := hV
      clear hV
      try simp only [Act.put, List.getElem_toArray, List.getElem_cons_zero, List.getElem_cons_succ, List.setIfInBounds_toArray, List.set_cons_zero, List.set_cons_succ]
      refine AnyU.take (i := 5) (v := ?_) rfl (by kernel_rfl) (by kernel_rfl) (by kernel_rfl) (fun _ _ _ h => h) (by kernel_rfl) (by assumption) (by rfl) ?_ (fun hV => ?_)
      rotate_left 1
      · (intro wq; go_simp; try with_reducible rfl)
      clear hU
      have hU := hV
      clear hV
      try simp only [Act.put, List.getElem_toArray, List.getElem_cons_zero, List.getElem_cons_succ, List.setIfInBounds_toArray, List.set_cons_zero, List.set_cons_succ]
      refine AnyU.take (i := 6) (v := ?_) rfl (by kernel_rfl) (by kernel_rfl) (by kernel_rfl) (fun _ _ _ h => h) (by kernel_rfl) (by assumption) (by rfl) ?_ (fun hV => ?_)
      rotate_left 1
      · (intro wq; go_simp; try with_reducible rfl)
      clear hU
      have hU := hV
      clear hV
      try simp only [Act.put, List.getElem_toArray, List.getElem_cons_zero, List.getElem_cons_succ, List.setIfInBounds_toArray, List.set_cons_zero, List.set_cons_succ]
      refine AnyU.take (i := 7) (v := ?_) rfl (by kernel_rfl) (by kernel_rfl) (by kernel_rfl) (fun _ _ _ h => h) (by kernel_rfl) (by assumption) (by rfl) ?_ (fun hV => ?_)
      rotate_left 1
      · (intro wq; go_simp; try with_reducible rfl)
      clear hU
      have hU := hV
      clear hV
      try simp only [Act.put, List.getElem_toArray, List.getElem_cons_zero, List.getElem_cons_succ, List.setIfInBounds_toArray, List.set_cons_zero, List.set_cons_succ]
      refine AnyU.take (i := 8) (v := ?_) rfl (by kernel_rfl) (by kernel_rfl) (by kernel_rfl) (fun _ _ _ h => h) (by kernel_rfl) (by assumption) (by rfl) ?_ (fun hV => ?_)
      rotate_left 1
      · (intro wq; go_simp; try with_reducible rfl)
      clear hU
      have hU := hV
      clear hV
      try simp only [Act.put, List.getElem_toArray, List.getElem_cons_zero, List.getElem_cons_succ, List.setIfInBounds_toArray, List.set_cons_zero, List.set_cons_succ]
      refine AnyU.loadc (i := 9) (d := 10) [10] (Si := fun w' => w'.cell? ⟨bx, ox + i * 8 + 1, none⟩ = some (.int .i64 x.ty.kind) ∧ w'.cell? ⟨bx, ox + i * 8 + 2, none⟩ = some (.string x.ty.pkg) ∧ w'.cell? ⟨bx, ox + i * 8 + 3, none⟩ = some (.int .i64 x.ty.major) ∧ w'.cell? ⟨bx, ox + i * 8 + 4, none⟩ = some (.string x.ty.mod) ∧ w'.cell? ⟨bx, ox + i * 8 + 5, none⟩ = some (.string x.ty.name) ∧ w'.cell? ⟨bx, ox + i * 8 + 6, none⟩ = some (.slice na x.ty.names.length nc) ∧ w'.cell? ⟨bx, ox + i * 8 + 7, none⟩ = some (.slice sa x.ty.subs.length sc)) (v := ?_) rfl (by kernel_rfl) (by kernel_rfl) (by kernel_rfl) (fun _ _ _ h => h) (by kernel_rfl) (by assumption) (by kernel_rfl) rfl (by simp) (by rfl) ?_ (fun hV => ?_)
      rotate_left 1
      · (intro wq hq; obtain ⟨u1, u2, u3, u4, u5, u6, u7⟩ := hq; go_simp; try with_reducible rfl)
      clear hU
      have hU := hV
      clear hV
      try simp only [Act.put, List.getElem_toArray, List.getElem_cons_zero, List.getElem_cons_succ, List.setIfInBounds_toArray, List.set_cons_zero, List.set_cons_succ]
      refine AnyU.ready1 (i := 10) (by kernel_rfl) (AnyU.one rfl fun K hK => ?_)
      go_simp
      go_at_call 40
      refine (HU.out (World.drew _) ((TY.out.under (A1.out.mono HB.out)).keep fun _ _ => rfl) ((TX.out.under (A1.out.mono HB.out)).keep fun _ _ => rfl) (Nat.le_trans HB.out A1.out.size)).mono ?_
      rintro e yw2 ⟨rfl, hb⟩
      have A2 := Lib.hid (A1.out.drew.trans (hb.mono A1.out.drew.size))
      clear hb
      refine hK.out _ _ (Until.cons (fun h => absurd h (by decide)) (Until.cons (fun h => absurd h (by decide)) Until.nil)) (fun hV => ?_)
      clear hK K
      clear hU
      have hU := hV
      clear hV
      try simp only [Act.put, List.getElem_toArray, List.getElem_cons_zero, List.getElem_cons_succ, List.setIfInBounds_toArray, List.set_cons_zero, List.set_cons_succ]
      refine AnyU.ready1 (i := 11) (by kernel_rfl) (AnyU.one rfl fun K hK => ?_)
      go_simp
      refine hK.out _ _ (Until.off (by kernel_rfl)) (fun hV => ?_)
      clear hK K
      clear hU
      have hU := hV
      clear hV
      try simp only [Act.put, List.getElem_toArray, List.getElem_cons_zero, List.getElem_cons_succ, List.setIfInBounds_toArray, List.set_cons_zero, List.set_cons_succ]
      refine AnyU.done (by kernel_rfl) ?_
      have hrr := HRR.out
      cases o
      · cases sb
        · obtain rfl : R = 2 := by rw [← hrr]; rfl
          go_wp2_with fail
          go_ret
          exact ⟨rfl, A2.out⟩
        · obtain rfl : R = 3 := by rw [← hrr]; rfl
          go_wp2_with fail
          go_ret
          exact ⟨rfl, A2.out⟩
      · obtain rfl : R = 2 := by rw [← hrr]; rfl
        go_wp2_with fail
        go_ret
        exact ⟨rfl, A2.out⟩
end Go.Proofs.Ytcohjjepigikjaa
namespace Go.Proofs.Ytcohjjepigikjaa
open Go.RowKit
set_option linter.unusedSimpArgs false
set_option linter.unusedVariables false
def riseF : List ByteArray → ByteArray → List ByteArray
  | [], s => [s]
  | x :: l, s => if ltB x s = true then x :: riseF l s else if (x.toList == s.toList) = true then x :: l else s :: x :: l
theorem riseF_hit : ∀ {l : List ByteArray} {s : ByteArray} {k : Nat} (hk : k < l.length), (∀ i (h : i < l.length), i < k → ltB l[i] s = true) → ltB l[k] s = false → (l[k].toList == s.toList) = true → riseF l s = l
  | [], _, k, hk, _, _, _ => by simp at hk
  | x :: l, s, 0, _, _, h1, h2 => by
    simp only [List.getElem_cons_zero] at h1 h2
    rw [riseF, if_neg (by rw [h1]; decide), if_pos h2]
  | x :: l, s, k + 1, hk, h, h1, h2 => by
    have h0 := h 0 (by simp) (by omega)
    simp only [List.getElem_cons_zero] at h0
    simp only [List.getElem_cons_succ] at h1 h2
    rw [riseF, if_pos h0, riseF_hit (k := k) (by simpa using hk) (fun i hi hik => by have := h (i + 1) (by simpa using hi) (by omega); simpa using this) h1 h2]
theorem riseF_put : ∀ {l : List ByteArray} {s : ByteArray} {k : Nat} (hk : k ≤ l.length), (∀ i (h : i < l.length), i < k → ltB l[i] s = true) → (∀ h : k < l.length, ltB l[k] s = false ∧ (l[k].toList == s.toList) = false) → riseF l s = l.take k ++ [s] ++ l.drop k
  | [], s, 0, _, _, _ => rfl
  | [], s, k + 1, hk, _, _ => by simp at hk
  | x :: l, s, 0, _, _, h1 => by
    obtain ⟨h1, h2⟩ := h1 (by simp)
    simp only [List.getElem_cons_zero] at h1 h2
    rw [riseF, if_neg (by rw [h1]; decide), if_neg (by rw [h2]; decide)]
    rfl
  | x :: l, s, k + 1, hk, h, h1 => by
    have h0 := h 0 (by simp) (by omega)
    simp only [List.getElem_cons_zero] at h0
    rw [riseF, if_pos h0, riseF_put (k := k) (by simpa using hk) (fun i hi hik => by have := h (i + 1) (by simpa using hi) (by omega); simpa using this) (fun hh => by have := h1 (by simpa using hh); simpa using this)]
    simp
theorem riseF_mem : ∀ (l : List ByteArray) (s x : ByteArray), x ∈ riseF l s ↔ x ∈ l ∨ x = s
  | [], s, x => by simp [riseF]
  | y :: l, s, x => by
    rw [riseF]
    split
    · rw [List.mem_cons, riseF_mem l s x, List.mem_cons, or_assoc]
    · split
      · rename_i h
        rw [ba_eq] at h
        have h := of_decide_eq_true h
        subst h
        constructor
        · exact fun h => .inl h
        · rintro (h | h)
          · exact h
          · rw [h]; simp
      · rw [List.mem_cons]
        constructor
        · rintro (h | h)
          · exact .inr h
          · exact .inl h
        · rintro (h | h)
          · exact .inr h
          · exact .inl h
theorem riseF_len : ∀ (l : List ByteArray) (s : ByteArray), (riseF l s).length ≤ l.length + 1
  | [], s => by simp [riseF]
  | y :: l, s => by
    have := riseF_len l s
    rw [riseF]
    split
    · simp only [List.length_cons]; omega
    · split <;> simp
theorem riseF_pos : ∀ (l : List ByteArray) (s : ByteArray), 0 < (riseF l s).length
  | [], s => by simp [riseF]
  | y :: l, s => by
    rw [riseF]
    split
    · simp
    · split <;> simp
theorem rise_cons {x : ByteArray} : ∀ {l : List ByteArray}, riseB l = true → (∀ y ∈ l, ltB x y = true) → riseB (x :: l) = true
  | [], _, _ => rfl
  | y :: l, h, h2 => by
    rw [riseB, h2 y (by simp), h]; rfl
theorem riseF_rise : ∀ {l : List ByteArray} (s : ByteArray), riseB l = true → riseB (riseF l s) = true
  | [], s, _ => rfl
  | y :: l, s, h => by
    rw [riseF]
    split
    · rename_i h1
      refine rise_cons (riseF_rise s (rise_tail h)) fun z hz => ?_
      rcases (riseF_mem l s z).1 hz with hz | rfl
      · exact rise_head h hz
      · exact h1
    · rename_i h1
      split
      · exact h
      · rename_i h2
        have hlt : ltB s y = true := by
          have e := less_total s.toList y.toList
          cases hs : ltB s y
          · rw [show Op.bytesLess s.toList y.toList = false from hs] at e
            simp only [Bool.not_false, Bool.or_eq_true] at e
            rcases e with e | e
            · exact absurd e h1
            · exact absurd e h2
          · rfl
        refine rise_cons h fun z hz => ?_
        rcases List.mem_cons.1 hz with rfl | hz
        · exact hlt
        · exact ltB_trans hlt (rise_head h hz)
def riseL (l ss : List ByteArray) : List ByteArray := ss.foldl riseF l
theorem riseL_rise : ∀ {ss l : List ByteArray}, riseB l = true → riseB (riseL l ss) = true
  | [], _, h => h
  | s :: ss, l, h => riseL_rise (ss := ss) (riseF_rise s h)
theorem riseL_mem : ∀ (ss l : List ByteArray) (x : ByteArray), x ∈ riseL l ss ↔ x ∈ l ∨ x ∈ ss
  | [], l, x => by simp [riseL]
  | s :: ss, l, x => by
    have := riseL_mem ss (riseF l s) x
    rw [riseL, List.foldl_cons] at *
    rw [this, riseF_mem, List.mem_cons, or_assoc]
theorem riseL_len : ∀ (ss l : List ByteArray), (riseL l ss).length ≤ l.length + ss.length
  | [], l => by simp [riseL]
  | s :: ss, l => by
    have := riseL_len ss (riseF l s)
    have := riseF_len l s
    rw [riseL, List.foldl_cons] at *
    rw [List.length_cons]; omega
theorem riseL_succ {l ss : List ByteArray} {k : Nat} (hk : k < ss.length) : riseL l (ss.take (k + 1)) = riseF (riseL l (ss.take k)) ss[k] := by
  rw [riseL, List.take_succ_eq_append_getElem hk, List.foldl_append]; rfl
theorem riseL_union (l m : List ByteArray) : riseL (riseL [] l) m = unionN l m := by
  refine rise_eq (riseL_rise (riseL_rise rfl)) (unionN_rise _ _) fun s => ?_
  rw [riseL_mem, riseL_mem, unionN_mem]; simp
end Go.Proofs.Ytcohjjepigikjaa
namespace Go.Proofs.Ytcohjjepigikjaa
open Go.RowKit
set_option linter.unusedSimpArgs false
set_option linter.unusedVariables false
/-- a slice that reads as a row of strings -/
def StrV (w : World) (base : Nat) (v : Value) (l : List ByteArray) : Prop :=
  (v = .slice none 0 0 ∧ l = []) ∨ ∃ b o cap, v = .slice (some ⟨b, o, none⟩) l.length cap ∧ l.length ≤ cap ∧ 0 < l.length ∧ base ≤ b ∧ b < w.heap.size ∧ ∀ i (h : i < l.length), w.cell? ⟨b, o + i, none⟩ = some (.string l[i])
theorem StrV.under {w w' : World} {base : Nat} {v : Value} {l : List ByteArray} (h : StrV w base v l) (hb : Below w.heap.size w w') : StrV w' base v l := by
  rcases h with h | ⟨b, o, cap, h1, h2, hp, h0, h3, h4⟩
  · exact .inl h
  · exact .inr ⟨b, o, cap, h1, h2, hp, h0, Nat.lt_of_lt_of_le h3 hb.size, fun i hi => (hb.cell (p := ⟨b, _, none⟩) h3).trans (h4 i hi)⟩
theorem StrV.own {w : World} {base n : Nat} {v : Value} {l : List ByteArray} (h : w.ownsRow base 9 1 v n (l.map Value.string)) (hn : l.length = n) (hpos : 0 < n) : StrV w base v l := by
  obtain ⟨hl, ⟨rfl, h0⟩ | ⟨g, cap, cur, rfl, hb, hh, hnc, hcm, hsz, htk⟩⟩ := h
  · omega
  · subst hn
    refine .inr ⟨g, 0, cap, rfl, hnc, hpos, hb, (Array.getElem?_eq_some_iff.1 hh).1, fun i hi => ?_⟩
    have e : (l.map Value.string)[i]? = some (.string l[i]) := by simp [hi]
    rw [← htk, List.getElem?_take, if_pos (by omega)] at e
    simp [World.cell?, hh]
    simpa using e
theorem StrV.low {w : World} {base base' : Nat} {v : Value} {l : List ByteArray} (h : StrV w base v l) (hb : base' ≤ base) : StrV w base' v l := by
  rcases h with h | ⟨b, o, cap, h1, h2, hp, h0, h3, h4⟩
  · exact .inl h
  · exact .inr ⟨b, o, cap, h1, h2, hp, Nat.le_trans hb h0, h3, h4⟩
theorem emptyRow (w : World) (e size : Nat) : (w.alloc (.cells #[] e)).ownsRow w.heap.size e size (.slice (some ⟨w.heap.size, 0, none⟩) 0 0) 0 [] :=
  ⟨by simp, .inr ⟨w.heap.size, 0, #[], rfl, Nat.le_refl _, heap_alloc_new w _, Nat.le_refl _, by simp [maxLen], by simp, by simp⟩⟩
theorem one_str (l : List ByteArray) : ∀ u ∈ l.map Value.string, u.oneCell' = true := by
  intro u hu
  obtain ⟨x, -, rfl⟩ := List.mem_map.1 hu
  rfl
theorem strs_src {w : World} {b o : Nat} {l : List ByteArray} (h : ∀ i (h : i < l.length), w.cell? ⟨b, o + i, none⟩ = some (.string l[i])) : ∀ j u, (l.map Value.string)[j]? = some u → w.cell? (Addr.add ⟨b, o, none⟩ j) = some u := by
  intro j u hu
  have hj : j < l.length := by
    have := (List.getElem?_eq_some_iff.1 hu).1
    simpa using this
  rw [addN, h j hj]
  simp [hj] at hu
  rw [hu]
set_option maxRecDepth 100000 in
set_option maxHeartbeats 8000000 in
theorem rise_c (base : Nat) (l : List ByteArray) (s : ByteArray) (v : Value) (w : World) (h1 : StrV w base v l) (hbase : base ≤ w.heap.size) (hl : l.length ≤ 100000) :
    Calls Try.prog 22 #[v, .string s] w fun e w' => ∃ v', e = .returned v' ∧ StrV w' base v' (riseF l s) ∧ Below w.heap.size w w' := by
  obtain ⟨i0, hi, hz0, hz1, hz2⟩ := info_parts info_strF
  rcases h1 with ⟨rfl, rfl⟩ | ⟨b, o, cap, rfl, hcap, hlp, hbb, hb, hc⟩
  · go_enter Try.func22, Try.ntmps22
    go_wp2_with fail
    go_loop [5] (fun i => i = .int .i64 0) (fun _ => 0)
    case atStart => rfl
    case round =>
      obtain rfl := hrel
      go_upto_region 7 with (at_builtin; refine wpList_append_own_none rfl _ _ 38 rfl w.heap.size 9 i0 1 Try.underlying38 hi _ 0 [] rfl (emptyRow w 9 1) rfl ?_)
      have hb1 : Below w.heap.size w (w.alloc (.cells #[] 9)) := (Below.refl w.heap.size w).alloc (Nat.le_refl _) _
      have hown1 := emptyRow w 9 1
      generalize (w.alloc (.cells #[] 9)) = w1 at hb1 hown1 ⊢
      have HB1 := Lib.hid hb1
      have HW1 := Lib.hid hown1
      clear hb1 hown1
      go_upto_region 8 with (at_builtin; refine wpList_append_own _ rfl _ _ 38 rfl w.heap.size 9 i0 (.string { data := #[] }) 1 16 Try.underlying38 hi hz0 hz1 hz2 rfl (by decide) _ 0 [] rfl (owns_under' HW1.out ((Below.refl w1.heap.size w1).alloc (Nat.le_refl _) _)) ⟨w1.heap.size, 0, none⟩ 1 1 [.string s] rfl rfl (by exact World.news_of_block (cs := #[.string s]) (t := 9) (fr := (0, 0)) (heap_alloc_new w1 _)) (by simp [Value.oneCell']) (by unfold maxLen; omega) (by omega) (by have := HB1.out.size; simp; omega) ?_)
      intro v2 w2 hown2 hg2 hn2
      have hb2 : Below w.heap.size w w2 := (HB1.out.alloc HB1.out.size _).grown hg2 (by have := HB1.out.size; simp; omega) (fun q hq => (owns_lt' HW1.out hq).1)
      have HB2 := Lib.hid hb2
      have HW2 := Lib.hid hown2
      clear hb2 hown2 hg2 hn2 HW1 HB1
      go_wp2_with (at_builtin; refine wpList_append_own_none rfl _ _ 38 rfl w.heap.size 9 i0 1 Try.underlying38 hi v2 (0 + 1) _ rfl HW2.out rfl ?_)
      go_ret
      exact ⟨v2, rfl, (StrV.own (l := [s]) HW2.out rfl (by decide)).low hbase, HB2.out⟩
  · obtain ⟨R, hR⟩ : ∃ R, riseF l s = R := ⟨_, rfl⟩
    simp only [hR]
    have HR := Lib.hid hR
    have HC := Lib.hid hc
    have HC0 := Lib.hid (show ∀ i (h : i < l.length), (w.alloc (.cells #[] 9)).cell? ⟨b, o + i, none⟩ = some (.string l[i]) from fun i hi => (World.cell?_alloc_lt _ _ _ hb).trans (hc i hi))
    clear hR hc
    go_enter Try.func22, Try.ntmps22
    go_wp2_with fail
    go_loop [5] (fun i => ∃ k : Nat, i = .int .i64 k ∧ k ≤ l.length ∧ ∀ i (h : i < l.length), i < k → ltB l[i] s = true) (fun i => l.length - (intOf i).toNat)
    case atStart => exact ⟨0, rfl, Nat.zero_le _, fun i _ hi => absurd hi (by omega)⟩
    case round =>
      obtain ⟨k, rfl, hk, hall⟩ := hrel
      have HA := Lib.hid hall
      clear hall
      have hcap0 : ¬ cap = 0 := by omega
      have hkc : (k : Int) ≤ (cap : Int) := by omega
      have hkl : (k : Int) ≤ (l.length : Int) := by omega
      by_cases hlt : k < l.length
      · have hltI : (k : Int) < (l.length : Int) := by omega
        have c0 := HC.out k hlt
        obtain ⟨x, hx⟩ : ∃ x, l[k] = x := ⟨_, rfl⟩
        rw [hx] at c0
        have HX := Lib.hid hx
        obtain ⟨t, ht⟩ : ∃ t, Op.bytesLess x.toList s.toList = t := ⟨_, rfl⟩
        have HT := Lib.hid (show ltB x s = t from ht)
        clear hx
        cases t
        · obtain ⟨q, hq⟩ : ∃ q, (x.toList == s.toList) = q := ⟨_, rfl⟩
          have HQ := Lib.hid hq
          cases q
          · have hr : l.take k ++ [s] ++ l.drop k = R := (HR.out.symm.trans (riseF_put hk HA.out (fun _ => by rw [HX.out]; exact ⟨HT.out, HQ.out⟩))).symm
            go_upto_region 6 with fail
            go_upto_region 7 with (at_builtin; refine wpList_append_own _ rfl _ _ 38 rfl w.heap.size 9 i0 (.string { data := #[] }) 1 16 Try.underlying38 hi hz0 hz1 hz2 rfl (by decide) _ 0 [] rfl (emptyRow w 9 1) ⟨b, o, none⟩ k _ ((l.take k).map Value.string) rfl (by simp; omega) (by exact strs_src fun i hi => by rw [HC0.out i (by rw [List.length_take] at hi; omega)]; simp) (one_str _) (by unfold maxLen; omega) (by omega) (by simp) ?_)
            intro v1 w1 hown1 hg1 hn1
            have hb1 : Below w.heap.size w w1 := ((Below.refl w.heap.size w).alloc (Nat.le_refl _) _).grown hg1 (by simp) (fun q hq => by simp [Value.ownBlock] at hq; omega)
            have hown1 : w1.ownsRow w.heap.size 9 1 v1 k ((l.take k).map Value.string) := by rw [List.map_take]; exact hown1
            have HB1 := Lib.hid hb1
            have HW1 := Lib.hid hown1
            clear hb1 hown1 hg1 hn1
            go_upto_region 8 with (at_builtin; refine wpList_append_own _ rfl _ _ 38 rfl w.heap.size 9 i0 (.string { data := #[] }) 1 16 Try.underlying38 hi hz0 hz1 hz2 rfl (by decide) v1 k ((l.take k).map Value.string) rfl (owns_under' HW1.out ((Below.refl w1.heap.size w1).alloc (Nat.le_refl _) _)) ⟨w1.heap.size, 0, none⟩ 1 1 [.string s] rfl rfl (by exact World.news_of_block (cs := #[.string s]) (t := 9) (fr := (0, 0)) (heap_alloc_new w1 _)) (by simp [Value.oneCell']) (by unfold maxLen; omega) (by omega) (by have := HB1.out.size; simp; omega) ?_)
            intro v2 w2 hown2 hg2 hn2
            have hb2 : Below w.heap.size w w2 := (HB1.out.alloc HB1.out.size _).grown hg2 (by have := HB1.out.size; simp; omega) (fun q hq => (owns_lt' HW1.out hq).1)
            have HB2 := Lib.hid hb2
            have HW2 := Lib.hid hown2
            have HC2 := Lib.hid (show ∀ i (h : i < l.length), w2.cell? ⟨b, o + i, none⟩ = some (.string l[i]) from fun i hi => (hb2.cell (p := ⟨b, _, none⟩) hb).trans (HC.out i hi))
            clear hb2 hown2 hg2 hn2 HW1 HB1
            go_wp2_with (at_builtin; refine wpList_append_own _ rfl _ _ 38 rfl w.heap.size 9 i0 (.string { data := #[] }) 1 16 Try.underlying38 hi hz0 hz1 hz2 rfl (by decide) v2 (k + 1) _ rfl HW2.out ⟨b, o + k, none⟩ (l.length - k) _ ((l.drop k).map Value.string) rfl (by simp) (by exact strs_src fun i hi => by rw [Nat.add_assoc, HC2.out (k + i) (by rw [List.length_drop] at hi; omega)]; simp) (one_str _) (by unfold maxLen; omega) (by omega) (by exact HB2.out.size) ?_)
            intro v3 w3 hown3 hg3 hn3
            have hb3 : Below w.heap.size w w3 := HB2.out.grown hg3 HB2.out.size (fun q hq => (owns_lt' HW2.out hq).1)
            have hown3 : w3.ownsRow w.heap.size 9 1 v3 (k + 1 + (l.length - k)) (R.map Value.string) := by rw [← hr]; simpa using hown3
            have hRl : R.length = k + 1 + (l.length - k) := by rw [← hr]; simp; omega
            have HV := Lib.hid ((StrV.own hown3 hRl (by omega)).low hbase)
            have HB3 := Lib.hid hb3
            clear hb3 hown3 hg3 hn3 hRl hr
            go_wp2_with fail
            go_ret
            exact ⟨v3, rfl, HV.out, HB3.out⟩
          · have hr := HR.out.symm.trans (riseF_hit hlt HA.out (by rw [HX.out]; exact HT.out) (by rw [HX.out]; exact HQ.out))
            subst hr
            go_wp2_with fail
            go_ret
            exact ⟨_, rfl, .inr ⟨b, o, cap, rfl, hcap, hlp, hbb, hb, HC.out⟩, Below.refl _ _⟩
        · go_wp2_with fail
          exact ⟨⟨k + 1, by go_num, by omega, fun i hi hik => by
            by_cases e : i = k
            · subst e; rw [HX.out]; exact HT.out
            · exact HA.out i hi (by omega)⟩, by simp [intOf]; omega⟩
      · have hltI : ¬ (k : Int) < (l.length : Int) := by omega
        have hr : l.take k ++ [s] ++ l.drop k = R := (HR.out.symm.trans (riseF_put hk HA.out (fun h => absurd h hlt))).symm
        by_cases hck : k = cap
        · obtain rfl := hck
          have hlk : l.length ≤ k := by omega
          rw [List.drop_of_length_le (show l.length ≤ k by omega), List.append_nil] at hr
          go_upto_region 6 with fail
          go_upto_region 7 with (at_builtin; refine wpList_append_own _ rfl _ _ 38 rfl w.heap.size 9 i0 (.string { data := #[] }) 1 16 Try.underlying38 hi hz0 hz1 hz2 rfl (by decide) _ 0 [] rfl (emptyRow w 9 1) ⟨b, o, none⟩ k _ ((l.take k).map Value.string) rfl (by simp; omega) (by exact strs_src fun i hi => by rw [HC0.out i (by rw [List.length_take] at hi; omega)]; simp) (one_str _) (by unfold maxLen; omega) (by omega) (by simp) ?_)
          intro v1 w1 hown1 hg1 hn1
          have hb1 : Below w.heap.size w w1 := ((Below.refl w.heap.size w).alloc (Nat.le_refl _) _).grown hg1 (by simp) (fun q hq => by simp [Value.ownBlock] at hq; omega)
          have hown1 : w1.ownsRow w.heap.size 9 1 v1 k ((l.take k).map Value.string) := by rw [List.map_take]; exact hown1
          have HB1 := Lib.hid hb1
          have HW1 := Lib.hid hown1
          clear hb1 hown1 hg1 hn1
          go_upto_region 8 with (at_builtin; refine wpList_append_own _ rfl _ _ 38 rfl w.heap.size 9 i0 (.string { data := #[] }) 1 16 Try.underlying38 hi hz0 hz1 hz2 rfl (by decide) v1 k ((l.take k).map Value.string) rfl (owns_under' HW1.out ((Below.refl w1.heap.size w1).alloc (Nat.le_refl _) _)) ⟨w1.heap.size, 0, none⟩ 1 1 [.string s] rfl rfl (by exact World.news_of_block (cs := #[.string s]) (t := 9) (fr := (0, 0)) (heap_alloc_new w1 _)) (by simp [Value.oneCell']) (by unfold maxLen; omega) (by omega) (by have := HB1.out.size; simp; omega) ?_)
          intro v2 w2 hown2 hg2 hn2
          have hb2 : Below w.heap.size w w2 := (HB1.out.alloc HB1.out.size _).grown hg2 (by have := HB1.out.size; simp; omega) (fun q hq => (owns_lt' HW1.out hq).1)
          have HB2 := Lib.hid hb2
          have HW2 := Lib.hid hown2
          have HC2 := Lib.hid (show ∀ i (h : i < l.length), w2.cell? ⟨b, o + i, none⟩ = some (.string l[i]) from fun i hi => (hb2.cell (p := ⟨b, _, none⟩) hb).trans (HC.out i hi))
          clear hb2 hown2 hg2 hn2 HW1 HB1
          go_wp2_with (at_builtin; refine wpList_append_own _ rfl _ _ 38 rfl w.heap.size 9 i0 (.string { data := #[] }) 1 16 Try.underlying38 hi hz0 hz1 hz2 rfl (by decide) v2 (k + 1) _ rfl HW2.out ⟨b, o, none⟩ 0 _ (([] : List ByteArray).map Value.string) rfl (by simp) (by exact fun j u hu => by simp at hu) (one_str _) (by unfold maxLen; omega) (by omega) (by exact HB2.out.size) ?_)
          intro v3 w3 hown3 hg3 hn3
          have hb3 : Below w.heap.size w w3 := HB2.out.grown hg3 HB2.out.size (fun q hq => (owns_lt' HW2.out hq).1)
          have hown3 : w3.ownsRow w.heap.size 9 1 v3 (k + 1 + 0) (R.map Value.string) := by rw [← hr]; simpa using hown3
          have hRl : R.length = k + 1 + 0 := by rw [← hr]; simp; omega
          have HV := Lib.hid ((StrV.own hown3 hRl (by omega)).low hbase)
          have HB3 := Lib.hid hb3
          clear hb3 hown3 hg3 hn3 hRl hr
          go_wp2_with fail
          go_ret
          exact ⟨v3, rfl, HV.out, HB3.out⟩
        · have hck2 : ¬ cap = k := fun e => hck e.symm
          have hlk : l.length ≤ k := by omega
          rw [List.drop_of_length_le (show l.length ≤ k by omega), List.append_nil] at hr
          go_upto_region 6 with fail
          go_upto_region 7 with (at_builtin; refine wpList_append_own _ rfl _ _ 38 rfl w.heap.size 9 i0 (.string { data := #[] }) 1 16 Try.underlying38 hi hz0 hz1 hz2 rfl (by decide) _ 0 [] rfl (emptyRow w 9 1) ⟨b, o, none⟩ k _ ((l.take k).map Value.string) rfl (by simp; omega) (by exact strs_src fun i hi => by rw [HC0.out i (by rw [List.length_take] at hi; omega)]; simp) (one_str _) (by unfold maxLen; omega) (by omega) (by simp) ?_)
          intro v1 w1 hown1 hg1 hn1
          have hb1 : Below w.heap.size w w1 := ((Below.refl w.heap.size w).alloc (Nat.le_refl _) _).grown hg1 (by simp) (fun q hq => by simp [Value.ownBlock] at hq; omega)
          have hown1 : w1.ownsRow w.heap.size 9 1 v1 k ((l.take k).map Value.string) := by rw [List.map_take]; exact hown1
          have HB1 := Lib.hid hb1
          have HW1 := Lib.hid hown1
          clear hb1 hown1 hg1 hn1
          go_upto_region 8 with (at_builtin; refine wpList_append_own _ rfl _ _ 38 rfl w.heap.size 9 i0 (.string { data := #[] }) 1 16 Try.underlying38 hi hz0 hz1 hz2 rfl (by decide) v1 k ((l.take k).map Value.string) rfl (owns_under' HW1.out ((Below.refl w1.heap.size w1).alloc (Nat.le_refl _) _)) ⟨w1.heap.size, 0, none⟩ 1 1 [.string s] rfl rfl (by exact World.news_of_block (cs := #[.string s]) (t := 9) (fr := (0, 0)) (heap_alloc_new w1 _)) (by simp [Value.oneCell']) (by unfold maxLen; omega) (by omega) (by have := HB1.out.size; simp; omega) ?_)
          intro v2 w2 hown2 hg2 hn2
          have hb2 : Below w.heap.size w w2 := (HB1.out.alloc HB1.out.size _).grown hg2 (by have := HB1.out.size; simp; omega) (fun q hq => (owns_lt' HW1.out hq).1)
          have HB2 := Lib.hid hb2
          have HW2 := Lib.hid hown2
          have HC2 := Lib.hid (show ∀ i (h : i < l.length), w2.cell? ⟨b, o + i, none⟩ = some (.string l[i]) from fun i hi => (hb2.cell (p := ⟨b, _, none⟩) hb).trans (HC.out i hi))
          clear hb2 hown2 hg2 hn2 HW1 HB1
          go_wp2_with (at_builtin; refine wpList_append_own _ rfl _ _ 38 rfl w.heap.size 9 i0 (.string { data := #[] }) 1 16 Try.underlying38 hi hz0 hz1 hz2 rfl (by decide) v2 (k + 1) _ rfl HW2.out ⟨b, o + k, none⟩ 0 _ (([] : List ByteArray).map Value.string) rfl (by simp) (by exact fun j u hu => by simp at hu) (one_str _) (by unfold maxLen; omega) (by omega) (by exact HB2.out.size) ?_)
          intro v3 w3 hown3 hg3 hn3
          have hb3 : Below w.heap.size w w3 := HB2.out.grown hg3 HB2.out.size (fun q hq => (owns_lt' HW2.out hq).1)
          have hown3 : w3.ownsRow w.heap.size 9 1 v3 (k + 1 + 0) (R.map Value.string) := by rw [← hr]; simpa using hown3
          have hRl : R.length = k + 1 + 0 := by rw [← hr]; simp; omega
          have HV := Lib.hid ((StrV.own hown3 hRl (by omega)).low hbase)
          have HB3 := Lib.hid hb3
          clear hb3 hown3 hg3 hn3 hRl hr
          go_wp2_with fail
          go_ret
          exact ⟨v3, rfl, HV.out, HB3.out⟩
end Go.Proofs.Ytcohjjepigikjaa
namespace Go.Proofs.Ytcohjjepigikjaa
open Go.RowKit
set_option linter.unusedSimpArgs false
set_option linter.unusedVariables false
/-- what interfaces have of a name -/
def look (l : List If) (m : ByteArray) (o : Bool) (n : ByteArray) : Option Nm :=
  firstNamed (if o = true then ((firstIface l m).getD zIf).types else ((firstIface l m).getD zIf).vals) n
theorem firstNamed_mem {l : List Nm} {n : ByteArray} : n ∈ l.map Nm.name ↔ (firstNamed l n).isSome = true := by
  rw [firstNamed, List.find?_isSome, List.mem_map]
  constructor
  · rintro ⟨x, hx, rfl⟩
    exact ⟨x, hx, ba_yes rfl⟩
  · rintro ⟨x, hx, h⟩
    rw [ba_eq] at h
    exact ⟨x, hx, by simpa using h⟩
theorem firstIface_mem {l : List If} {n : ByteArray} : n ∈ l.map If.mod ↔ (firstIface l n).isSome = true := by
  rw [firstIface, List.find?_isSome, List.mem_map]
  constructor
  · rintro ⟨x, hx, rfl⟩
    exact ⟨x, hx, ba_yes rfl⟩
  · rintro ⟨x, hx, h⟩
    rw [ba_eq] at h
    exact ⟨x, hx, by simpa using h⟩
theorem look_mod {l : List If} {m n : ByteArray} {o : Bool} (h : (look l m o n).isSome = true) : m ∈ l.map If.mod := by
  rw [firstIface_mem]
  cases hf : firstIface l m with
  | some x => rfl
  | none =>
    rw [look, hf] at h
    cases o <;> simp [zIf, firstNamed] at h
theorem rowsF_mem {m : ByteArray} {a b : List Nm} {o : Bool} {c : Chg} : c ∈ rowsF m a b o ↔ c.mod = m ∧ c.ofType = o ∧ ((firstNamed a c.name).isSome = true ∨ (firstNamed b c.name).isSome = true) ∧ c.kind = kindO (firstNamed a c.name) (firstNamed b c.name) o ∧ 0 < c.kind := by
  rw [rowsF, List.mem_flatMap]
  constructor
  · rintro ⟨n, hn, hc⟩
    rw [unionN_mem, firstNamed_mem, firstNamed_mem] at hn
    rw [oneF] at hc
    split at hc
    · rename_i hk
      simp only [List.mem_singleton] at hc
      subst hc
      exact ⟨rfl, rfl, hn, rfl, hk⟩
    · cases hc
  · rintro ⟨rfl, rfl, hn, hk, h0⟩
    refine ⟨c.name, by rw [unionN_mem, firstNamed_mem, firstNamed_mem]; exact hn, ?_⟩
    rw [oneF, kindF, ← hk, if_pos h0]
    simp
theorem chg_mem {a b : List If} {c : Chg} : c ∈ chgF a b ↔ ((look a c.mod c.ofType c.name).isSome = true ∨ (look b c.mod c.ofType c.name).isSome = true) ∧ c.kind = kindO (look a c.mod c.ofType c.name) (look b c.mod c.ofType c.name) c.ofType ∧ 0 < c.kind := by
  rw [chgF, List.mem_flatMap]
  constructor
  · rintro ⟨m, hm, hc⟩
    rw [modF, List.mem_append, rowsF_mem, rowsF_mem] at hc
    rcases hc with ⟨rfl, ho, hn, hk, h0⟩ | ⟨rfl, ho, hn, hk, h0⟩
    · rw [look, look, ho]; exact ⟨hn, hk, h0⟩
    · rw [look, look, ho]; exact ⟨hn, hk, h0⟩
  · rintro ⟨hn, hk, h0⟩
    refine ⟨c.mod, ?_, ?_⟩
    · rw [unionN_mem]
      rcases hn with hn | hn
      · exact .inl (look_mod hn)
      · exact .inr (look_mod hn)
    · rw [modF, List.mem_append, rowsF_mem, rowsF_mem]
      cases ho : c.ofType
      · rw [look, look, ho] at hn hk; exact .inr ⟨rfl, rfl, hn, hk, h0⟩
      · rw [look, look, ho] at hn hk; exact .inl ⟨rfl, rfl, hn, hk, h0⟩
theorem named_plain {p : ByteArray → Bool} {l : List Nm} (h : namedB p l = true) {x : Nm} (hx : x ∈ l) : PlainB x.ty = true := by
  obtain ⟨i, hi, rfl⟩ := List.getElem_of_mem hx
  rw [namedB, List.all_eq_true] at h
  have := h i (List.mem_range.2 hi)
  rw [nmOk, dif_pos hi] at this
  simp only [Bool.and_eq_true] at this
  exact this.2.2
theorem may_iface {l : List If} (h : mayP l = true) {x : If} (hx : x ∈ l) : imayB x = true := by
  obtain ⟨i, hi, rfl⟩ := List.getElem_of_mem hx
  rw [mayP, Bool.and_eq_true, List.all_eq_true] at h
  have := h.1 i (List.mem_range.2 hi)
  rw [ipOk, dif_pos hi] at this
  simp only [Bool.and_eq_true] at this
  exact this.1
theorem look_plain {l : List If} (h : mayP l = true) {m n : ByteArray} {o : Bool} {x : Nm} (hx : look l m o n = some x) : PlainB x.ty = true := by
  rw [look] at hx
  have hm := List.mem_of_find?_eq_some hx
  cases hf : firstIface l m with
  | none => rw [hf] at hm; cases o <;> simp [zIf] at hm
  | some y =>
    have hy := may_iface h (List.mem_of_find?_eq_some hf)
    rw [imayB] at hy
    simp only [Bool.and_eq_true] at hy
    rw [hf] at hm
    cases o
    · exact named_plain hy.2.2.2.2.2 hm
    · exact named_plain hy.2.2.2.2.1 hm
theorem same_plain {a b : Ty} (ha : PlainB a = true) (hb : PlainB b = true) : sameB a b = true ↔ a = b := by
  rw [sameB, plain_may ha, plain_may hb, Bool.true_and, Bool.true_and, alike_iff]
theorem subB_plain {a b : Ty} (ha : PlainB a = true) (hb : PlainB b = true) : SubB a b = subF 32 a b := by rw [SubB, ha, hb]; simp
theorem subB_refl {a : Ty} (ha : PlainB a = true) : SubB a a = true := by
  rw [subB_plain ha ha]
  exact sub_refl 32 a (plain_may ha) (may_deep (plain_may ha))
theorem subB_trans {a b c : Ty} (ha : PlainB a = true) (hb : PlainB b = true) (hc : PlainB c = true) (h1 : SubB a b = true) (h2 : SubB b c = true) : SubB a c = true := by
  rw [subB_plain ha hb] at h1
  rw [subB_plain hb hc] at h2
  rw [subB_plain ha hc]
  exact sub_trans 32 a b c (plain_may ha) (plain_may hb) (plain_may hc) (may_deep (plain_may ha)) (may_deep (plain_may hb)) (may_deep (plain_may hc)) h1 h2
theorem turn_zero {a b : Ty} {o : Bool} (ha : PlainB a = true) (hb : PlainB b = true) : turnF a b o = 0 ↔ a = b := by
  rw [← same_plain ha hb, turnF]
  by_cases h : sameB a b = true
  · simp [h]
  · rw [if_neg h]
    constructor
    · intro e; split at e <;> cases e
    · intro e; exact absurd e h
theorem turn_two {a b : Ty} {o : Bool} (ha : PlainB a = true) (hb : PlainB b = true) : turnF a b o = 2 ↔ a ≠ b ∧ (o = true ∨ SubB b a = false) := by
  rw [ne_eq, ← same_plain ha hb, turnF]
  by_cases h : sameB a b = true
  · rw [if_pos h]
    constructor
    · intro e; cases e
    · intro e; exact absurd h e.1
  · rw [if_neg h]
    by_cases h2 : o = true ∨ SubB b a = false
    · rw [if_pos h2]; exact ⟨fun _ => ⟨h, h2⟩, fun _ => rfl⟩
    · rw [if_neg h2]
      constructor
      · intro e; cases e
      · intro e; exact absurd e.2 h2
theorem turn_cases (a b : Ty) (o : Bool) : turnF a b o = 0 ∨ turnF a b o = 2 ∨ turnF a b o = 3 := by
  unfold turnF
  split
  · exact .inl rfl
  · split
    · exact .inr (.inl rfl)
    · exact .inr (.inr rfl)
/-- is there anything, and anything great, that changed of a name? -/
theorem of_big {l : List Chg} : ofF l = 3 ↔ ∃ c ∈ l, c.kind = 1 ∨ c.kind = 2 := by
  rw [ofF]
  by_cases h : l.any bigB = true
  · rw [if_pos h]
    obtain ⟨c, hc, hb⟩ := List.any_eq_true.1 h
    simp [bigB] at hb
    exact ⟨fun _ => ⟨c, hc, hb⟩, fun _ => rfl⟩
  · rw [if_neg h]
    constructor
    · intro e; split at e <;> cases e
    · rintro ⟨c, hc, hb⟩
      exact absurd (List.any_eq_true.2 ⟨c, hc, by simpa [bigB] using hb⟩) h
theorem of_one {l : List Chg} : ofF l = 1 ↔ l = [] := by
  rw [ofF]
  cases l with
  | nil => simp
  | cons x l =>
    constructor
    · intro e
      split at e
      · cases e
      · simp at e
    · intro e; cases e
theorem of_range (l : List Chg) : ofF l = 1 ∨ ofF l = 2 ∨ ofF l = 3 := by
  rw [ofF]
  split
  · exact .inr (.inr rfl)
  · split
    · exact .inl rfl
    · exact .inr (.inl rfl)
theorem big_at {a b : List If} {m n : ByteArray} {o : Bool} {k : Int} (hn : (look a m o n).isSome = true ∨ (look b m o n).isSome = true) (hk : kindO (look a m o n) (look b m o n) o = k) (h : k = 1 ∨ k = 2) : ofF (chgF a b) = 3 :=
  of_big.2 ⟨⟨k, m, n, o⟩, chg_mem.2 ⟨hn, hk.symm, by show 0 < k; omega⟩, h⟩
theorem some_at {a b : List If} {m n : ByteArray} {o : Bool} {k : Int} (hn : (look a m o n).isSome = true ∨ (look b m o n).isSome = true) (hk : kindO (look a m o n) (look b m o n) o = k) (h : 0 < k) : chgF a b ≠ [] := by
  intro e
  have : (⟨k, m, n, o⟩ : Chg) ∈ chgF a b := chg_mem.2 ⟨hn, hk.symm, h⟩
  rw [e] at this
  cases this
theorem bump_big {a b c : List If} (ma : mayP a = true) (mb : mayP b = true) (mc : mayP c = true) (h : ofF (chgF a c) = 3) : ofF (chgF a b) = 3 ∨ ofF (chgF b c) = 3 := by
  obtain ⟨⟨k, m, n, o⟩, hc, hb⟩ := of_big.1 h
  obtain ⟨hn, hk, h0⟩ := chg_mem.1 hc
  simp only at hb hn hk h0
  have PA := fun x => look_plain ma (m := m) (n := n) (o := o) (x := x)
  have PB := fun x => look_plain mb (m := m) (n := n) (o := o) (x := x)
  have PC := fun x => look_plain mc (m := m) (n := n) (o := o) (x := x)
  have b1 := @big_at a b m n o
  have b2 := @big_at b c m n o
  generalize look a m o n = fa at hn hk PA b1
  generalize look b m o n = fb at PB b1 b2
  generalize look c m o n = fc at hn hk PC b2
  cases fa with
  | none => simp only [kindO] at hk; omega
  | some x =>
    have px := PA x rfl
    cases fb with
    | none => exact .inl (b1 (k := 1) (.inl rfl) rfl (.inl rfl))
    | some y =>
      have py := PB y rfl
      cases fc with
      | none => exact .inr (b2 (k := 1) (.inl rfl) rfl (.inl rfl))
      | some z =>
        have pz := PC z rfl
        have hk2 : turnF x.ty z.ty o = 2 := by
          simp only [kindO] at hk
          rcases turn_cases x.ty z.ty o with e | e | e <;> omega
        obtain ⟨hne, ho⟩ := (turn_two px pz).1 hk2
        rcases turn_cases x.ty y.ty o with e1 | e1 | e1
        · have e := (turn_zero px py).1 e1
          rw [e] at hk2
          exact .inr (b2 (k := 2) (.inl rfl) hk2 (.inr rfl))
        · exact .inl (b1 (k := 2) (.inl rfl) e1 (.inr rfl))
        · rcases turn_cases y.ty z.ty o with e2 | e2 | e2
          · have e := (turn_zero py pz).1 e2
            rw [← e] at hk2
            omega
          · exact .inr (b2 (k := 2) (.inl rfl) e2 (.inr rfl))
          · exfalso
            have n1 : ¬ turnF x.ty y.ty o = 0 := by omega
            have n2 : ¬ turnF y.ty z.ty o = 0 := by omega
            have m1 : ¬ turnF x.ty y.ty o = 2 := by omega
            have m2 : ¬ turnF y.ty z.ty o = 2 := by omega
            rw [turn_zero px py] at n1
            rw [turn_zero py pz] at n2
            rw [turn_two px py] at m1
            rw [turn_two py pz] at m2
            have s1 : SubB y.ty x.ty = true := by
              cases hs : SubB y.ty x.ty
              · exact absurd ⟨n1, .inr hs⟩ m1
              · rfl
            have s2 : SubB z.ty y.ty = true := by
              cases hs : SubB z.ty y.ty
              · exact absurd ⟨n2, .inr hs⟩ m2
              · rfl
            rcases ho with ho | ho
            · exact m1 ⟨n1, .inl ho⟩
            · rw [subB_trans pz py px s2 s1] at ho
              cases ho
theorem bump_none {a b c : List If} (ma : mayP a = true) (mb : mayP b = true) (mc : mayP c = true) (h1 : chgF a b = []) (h2 : chgF b c = []) : chgF a c = [] := by
  apply List.eq_nil_iff_forall_not_mem.2
  rintro ⟨k, m, n, o⟩ hc
  obtain ⟨hn, hk, h0⟩ := chg_mem.1 hc
  simp only at hn hk h0
  have PA := fun x => look_plain ma (m := m) (n := n) (o := o) (x := x)
  have PB := fun x => look_plain mb (m := m) (n := n) (o := o) (x := x)
  have PC := fun x => look_plain mc (m := m) (n := n) (o := o) (x := x)
  have b1 := @some_at a b m n o
  have b2 := @some_at b c m n o
  rw [h1] at b1
  rw [h2] at b2
  generalize look a m o n = fa at hn hk PA b1
  generalize look b m o n = fb at PB b1 b2
  generalize look c m o n = fc at hn hk PC b2
  cases fa with
  | none =>
    cases fc with
    | none => simp at hn
    | some z =>
      cases fb with
      | none => exact b2 (k := 4) (.inr rfl) rfl (by decide) rfl
      | some y => exact b1 (k := 4) (.inr rfl) rfl (by decide) rfl
  | some x =>
    have px := PA x rfl
    cases fb with
    | none => exact b1 (k := 1) (.inl rfl) rfl (by decide) rfl
    | some y =>
      have py := PB y rfl
      cases fc with
      | none => exact b2 (k := 1) (.inl rfl) rfl (by decide) rfl
      | some z =>
        have pz := PC z rfl
        have g1 := @b1 (turnF x.ty y.ty o) (.inl rfl) rfl
        have g2 := @b2 (turnF y.ty z.ty o) (.inl rfl) rfl
        have e1 : turnF x.ty y.ty o = 0 := by
          rcases turn_cases x.ty y.ty o with e | e | e
          · exact e
          · exact absurd rfl (g1 (by omega))
          · exact absurd rfl (g1 (by omega))
        have e2 : turnF y.ty z.ty o = 0 := by
          rcases turn_cases y.ty z.ty o with e | e | e
          · exact e
          · exact absurd rfl (g2 (by omega))
          · exact absurd rfl (g2 (by omega))
        rw [turn_zero px py] at e1
        rw [turn_zero py pz] at e2
        simp only [kindO] at hk
        rw [(turn_zero px pz).2 (e1.trans e2)] at hk
        omega
theorem bump_trans {a b c : List If} (ma : mayP a = true) (mb : mayP b = true) (mc : mayP c = true) : ofF (chgF a c) ≤ ofF (chgF a b) ∨ ofF (chgF a c) ≤ ofF (chgF b c) := by
  rcases of_range (chgF a c) with h | h | h
  · have := of_range (chgF a b); omega
  · by_cases h1 : chgF a b = []
    · by_cases h2 : chgF b c = []
      · rw [bump_none ma mb mc h1 h2] at h
        cases h
      · have := of_range (chgF b c)
        have h3 : ¬ ofF (chgF b c) = 1 := fun e => h2 (of_one.1 e)
        omega
    · have := of_range (chgF a b)
      have h3 : ¬ ofF (chgF a b) = 1 := fun e => h1 (of_one.1 e)
      omega
  · rcases bump_big ma mb mc h with e | e <;> omega
theorem bump_self {a : List If} (ma : mayP a = true) : ofF (chgF a a) = 1 := by
  rw [of_one]
  apply List.eq_nil_iff_forall_not_mem.2
  rintro ⟨k, m, n, o⟩ hc
  obtain ⟨hn, hk, h0⟩ := chg_mem.1 hc
  simp only at hn hk h0
  cases hl : look a m o n with
  | none => rw [hl] at hn; simp at hn
  | some x =>
    rw [hl] at hk
    simp only [kindO] at hk
    rw [(turn_zero (look_plain ma hl) (look_plain ma hl)).2 rfl] at hk
    omega
end Go.Proofs.Ytcohjjepigikjaa
namespace Go.Proofs.Ytcohjjepigikjaa
open Go.RowKit
set_option linter.unusedSimpArgs false
set_option linter.unusedVariables false
def bT : Ty := .mk 1 { data := #[] } 0 { data := #[] } { data := #[] } [] []
def bF : Nm := ⟨{ data := #[102] }, bT⟩
def bG : Nm := ⟨{ data := #[103] }, bT⟩
def bA : List If := [⟨{ data := #[112] }, 1, { data := #[109] }, [], [bF]⟩]
def bB : List If := [⟨{ data := #[112] }, 1, { data := #[109] }, [], [bF, bG]⟩]
def bZ : List If := [⟨{ data := #[] }, 0, { data := #[] }, [], []⟩]
theorem fair_ab : fairB bA bB = true := by decide +kernel
theorem fair_zb : fairB bZ bB = false := by decide +kernel
theorem few_a : bA.all fewX = true := by decide +kernel
theorem few_b : bB.all fewX = true := by decide +kernel
theorem un_m : unionN [{ data := #[109] }] [{ data := #[109] }] = [{ data := #[109] }] := rise_eq (unionN_rise _ _) (by decide +kernel) fun s => by rw [unionN_mem]; simp
theorem un_0 : unionN [] [] = [] := rise_eq (unionN_rise _ _) (by decide +kernel) fun s => by rw [unionN_mem]; simp
theorem un_n : unionN [{ data := #[102] }] [{ data := #[102] }, { data := #[103] }] = [{ data := #[102] }, { data := #[103] }] := rise_eq (unionN_rise _ _) (by decide +kernel) fun s => by rw [unionN_mem]; simp
theorem chg_ab : chgF bA bB = [⟨4, { data := #[109] }, { data := #[103] }, false⟩] := by
  have e1 : unionN (bA.map If.mod) (bB.map If.mod) = [{ data := #[109] }] := un_m
  have ea : (firstIface bA { data := #[109] }).getD zIf = ⟨{ data := #[112] }, 1, { data := #[109] }, [], [bF]⟩ := by kernel_rfl
  have eb : (firstIface bB { data := #[109] }).getD zIf = ⟨{ data := #[112] }, 1, { data := #[109] }, [], [bF, bG]⟩ := by kernel_rfl
  have ef : oneF { data := #[109] } [bF] [bF, bG] false { data := #[102] } = [] := by kernel_rfl
  have eg : oneF { data := #[109] } [bF] [bF, bG] false { data := #[103] } = [⟨4, { data := #[109] }, { data := #[103] }, false⟩] := by kernel_rfl
  rw [chgF, e1, List.flatMap_cons, List.flatMap_nil, List.append_nil, modF, ea, eb, rowsF, rowsF]
  simp only [List.map_nil, un_0, List.flatMap_nil, List.nil_append, List.map_cons]
  rw [show unionN [bF.name] [bF.name, bG.name] = [{ data := #[102] }, { data := #[103] }] from un_n, List.flatMap_cons, List.flatMap_cons, ef, eg]; rfl
theorem bump_ab : ofF (chgF bA bB) = 2 := by rw [chg_ab]; rfl
theorem eq_err (w : World) : (binOp BinOp.eql 27 (.iface 33 (.int .i64 1)) (.iface 33 (.int .i64 1))).run Try.prog w = .ok (.bool true) w := by kernel_rfl
theorem eq_errnil (w : World) : (binOp BinOp.eql 27 (.iface 33 (.int .i64 1)) .nilIface).run Try.prog w = .ok (.bool false) w := by kernel_rfl
theorem neq_errnil (w : World) : (binOp BinOp.neq 27 (.iface 33 (.int .i64 1)) .nilIface).run Try.prog w = .ok (.bool true) w := by kernel_rfl
theorem bT_c (w : World) (B : Nat) : TyC w B bT (tyCells bT none 0 none 0) :=
  .mk bT none 0 none 0 (fun _ => #[]) ⟨by decide, by decide, by decide, by decide, by decide, by decide, (by intro s h; cases h), by decide⟩ (.inl rfl) (.inl rfl) (Nat.le_refl _) (Nat.le_refl _) (fun i hi => absurd hi (by simp [bT, Ty.subs]))
theorem bN_c (w : World) (B : Nat) (n : Nm) (h : n.name.size ≤ maxLen) (ht : n.ty = bT) : NmC w B n (nmCells n none 0 none 0) := ⟨h, none, 0, none, 0, rfl, by rw [ht]; exact bT_c w B⟩
theorem rows_f {w : World} {b B : Nat} (h : Blk w b #[.string { data := #[102] }, .int .i64 1, .string { data := #[] }, .int .i64 0, .string { data := #[] }, .string { data := #[] }, .slice none 0 0, .slice none 0 0] 43) (hb : b < B) : NmsAt w B (some ⟨b, 0, none⟩) [bF] := by
  refine ⟨fun _ => nmCells bF none 0 none 0, .inr ⟨b, 0, rfl, hb, fun i hi j hj => ?_⟩, fun i hi => ?_⟩
  · obtain rfl : i = 0 := by simp at hi; exact hi
    rw [h.cell]
    have hj : j < 8 := hj
    match j, hj with
    | 0, _ | 1, _ | 2, _ | 3, _ | 4, _ | 5, _ | 6, _ | 7, _ => rfl
  · obtain rfl : i = 0 := by simp at hi; exact hi
    exact bN_c w B bF (by decide) rfl
theorem rows_fg {w : World} {b B : Nat} (h : Blk w b #[.string { data := #[102] }, .int .i64 1, .string { data := #[] }, .int .i64 0, .string { data := #[] }, .string { data := #[] }, .slice none 0 0, .slice none 0 0, .string { data := #[103] }, .int .i64 1, .string { data := #[] }, .int .i64 0, .string { data := #[] }, .string { data := #[] }, .slice none 0 0, .slice none 0 0] 43) (hb : b < B) : NmsAt w B (some ⟨b, 0, none⟩) [bF, bG] := by
  refine ⟨fun i => if i = 0 then nmCells bF none 0 none 0 else nmCells bG none 0 none 0, .inr ⟨b, 0, rfl, hb, fun i hi j hj => ?_⟩, fun i hi => ?_⟩
  · have hi : i < 2 := hi
    match i, hi with
    | 0, _ =>
      rw [h.cell]
      have hj : j < 8 := hj
      match j, hj with
      | 0, _ | 1, _ | 2, _ | 3, _ | 4, _ | 5, _ | 6, _ | 7, _ => rfl
    | 1, _ =>
      rw [h.cell]
      have hj : j < 8 := hj
      match j, hj with
      | 0, _ | 1, _ | 2, _ | 3, _ | 4, _ | 5, _ | 6, _ | 7, _ => rfl
  · have hi : i < 2 := hi
    match i, hi with
    | 0, _ => exact bN_c w B bF (by decide) rfl
    | 1, _ => exact bN_c w B bG (by decide) rfl
theorem row_if {w : World} {b B : Nat} {x : If} {ta : Option Addr} {tc : Nat} {va : Option Addr} {vc : Nat} (h : Blk w b (ifCells x ta tc va vc) 46) (hb : b < B) (hx : IfC w B x (ifCells x ta tc va vc)) : IfsAt w B (some ⟨b, 0, none⟩) [x] := by
  refine ⟨fun _ => ifCells x ta tc va vc, .inr ⟨b, 0, rfl, hb, fun i hi j hj => ?_⟩, fun i hi => ?_⟩
  · obtain rfl : i = 0 := by simp at hi; exact hi
    rw [h.cell]
    simp
  · obtain rfl : i = 0 := by simp at hi; exact hi
    exact hx
theorem six (w : World) : Blk ((((((w.alloc (.cells #[.string { data := #[102] }, .int .i64 1, .string { data := #[] }, .int .i64 0, .string { data := #[] }, .string { data := #[] }, .slice none 0 0, .slice none 0 0] 43)).alloc (.cells #[.string { data := #[103] }, .int .i64 1, .string { data := #[] }, .int .i64 0, .string { data := #[] }, .string { data := #[] }, .slice none 0 0, .slice none 0 0] 43)).alloc (.cells #[.string { data := #[102] }, .int .i64 1, .string { data := #[] }, .int .i64 0, .string { data := #[] }, .string { data := #[] }, .slice none 0 0, .slice none 0 0] 43)).alloc (.cells #[.string { data := #[112] }, .int .i64 1, .string { data := #[109] }, .slice none 0 0, .slice (some ⟨w.heap.size + 1 + 1, 0, none⟩) 1 1] 46)).alloc (.cells #[.string { data := #[102] }, .int .i64 1, .string { data := #[] }, .int .i64 0, .string { data := #[] }, .string { data := #[] }, .slice none 0 0, .slice none 0 0, .string { data := #[103] }, .int .i64 1, .string { data := #[] }, .int .i64 0, .string { data := #[] }, .string { data := #[] }, .slice none 0 0, .slice none 0 0] 43)).alloc (.cells #[.string { data := #[112] }, .int .i64 1, .string { data := #[109] }, .slice none 0 0, .slice (some ⟨w.heap.size + 1 + 1 + 1 + 1, 0, none⟩) 2 2] 46)) (w.heap.size + 1 + 1) #[.string { data := #[102] }, .int .i64 1, .string { data := #[] }, .int .i64 0, .string { data := #[] }, .string { data := #[] }, .slice none 0 0, .slice none 0 0] 43 ∧ Blk ((((((w.alloc (.cells #[.string { data := #[102] }, .int .i64 1, .string { data := #[] }, .int .i64 0, .string { data := #[] }, .string { data := #[] }, .slice none 0 0, .slice none 0 0] 43)).alloc (.cells #[.string { data := #[103] }, .int .i64 1, .string { data := #[] }, .int .i64 0, .string { data := #[] }, .string { data := #[] }, .slice none 0 0, .slice none 0 0] 43)).alloc (.cells #[.string { data := #[102] }, .int .i64 1, .string { data := #[] }, .int .i64 0, .string { data := #[] }, .string { data := #[] }, .slice none 0 0, .slice none 0 0] 43)).alloc (.cells #[.string { data := #[112] }, .int .i64 1, .string { data := #[109] }, .slice none 0 0, .slice (some ⟨w.heap.size + 1 + 1, 0, none⟩) 1 1] 46)).alloc (.cells #[.string { data := #[102] }, .int .i64 1, .string { data := #[] }, .int .i64 0, .string { data := #[] }, .string { data := #[] }, .slice none 0 0, .slice none 0 0, .string { data := #[103] }, .int .i64 1, .string { data := #[] }, .int .i64 0, .string { data := #[] }, .string { data := #[] }, .slice none 0 0, .slice none 0 0] 43)).alloc (.cells #[.string { data := #[112] }, .int .i64 1, .string { data := #[109] }, .slice none 0 0, .slice (some ⟨w.heap.size + 1 + 1 + 1 + 1, 0, none⟩) 2 2] 46)) (w.heap.size + 1 + 1 + 1) #[.string { data := #[112] }, .int .i64 1, .string { data := #[109] }, .slice none 0 0, .slice (some ⟨w.heap.size + 1 + 1, 0, none⟩) 1 1] 46 ∧ Blk ((((((w.alloc (.cells #[.string { data := #[102] }, .int .i64 1, .string { data := #[] }, .int .i64 0, .string { data := #[] }, .string { data := #[] }, .slice none 0 0, .slice none 0 0] 43)).alloc (.cells #[.string { data := #[103] }, .int .i64 1, .string { data := #[] }, .int .i64 0, .string { data := #[] }, .string { data := #[] }, .slice none 0 0, .slice none 0 0] 43)).alloc (.cells #[.string { data := #[102] }, .int .i64 1, .string { data := #[] }, .int .i64 0, .string { data := #[] }, .string { data := #[] }, .slice none 0 0, .slice none 0 0] 43)).alloc (.cells #[.string { data := #[112] }, .int .i64 1, .string { data := #[109] }, .slice none 0 0, .slice (some ⟨w.heap.size + 1 + 1, 0, none⟩) 1 1] 46)).alloc (.cells #[.string { data := #[102] }, .int .i64 1, .string { data := #[] }, .int .i64 0, .string { data := #[] }, .string { data := #[] }, .slice none 0 0, .slice none 0 0, .string { data := #[103] }, .int .i64 1, .string { data := #[] }, .int .i64 0, .string { data := #[] }, .string { data := #[] }, .slice none 0 0, .slice none 0 0] 43)).alloc (.cells #[.string { data := #[112] }, .int .i64 1, .string { data := #[109] }, .slice none 0 0, .slice (some ⟨w.heap.size + 1 + 1 + 1 + 1, 0, none⟩) 2 2] 46)) (w.heap.size + 1 + 1 + 1 + 1) #[.string { data := #[102] }, .int .i64 1, .string { data := #[] }, .int .i64 0, .string { data := #[] }, .string { data := #[] }, .slice none 0 0, .slice none 0 0, .string { data := #[103] }, .int .i64 1, .string { data := #[] }, .int .i64 0, .string { data := #[] }, .string { data := #[] }, .slice none 0 0, .slice none 0 0] 43 ∧ Blk ((((((w.alloc (.cells #[.string { data := #[102] }, .int .i64 1, .string { data := #[] }, .int .i64 0, .string { data := #[] }, .string { data := #[] }, .slice none 0 0, .slice none 0 0] 43)).alloc (.cells #[.string { data := #[103] }, .int .i64 1, .string { data := #[] }, .int .i64 0, .string { data := #[] }, .string { data := #[] }, .slice none 0 0, .slice none 0 0] 43)).alloc (.cells #[.string { data := #[102] }, .int .i64 1, .string { data := #[] }, .int .i64 0, .string { data := #[] }, .string { data := #[] }, .slice none 0 0, .slice none 0 0] 43)).alloc (.cells #[.string { data := #[112] }, .int .i64 1, .string { data := #[109] }, .slice none 0 0, .slice (some ⟨w.heap.size + 1 + 1, 0, none⟩) 1 1] 46)).alloc (.cells #[.string { data := #[102] }, .int .i64 1, .string { data := #[] }, .int .i64 0, .string { data := #[] }, .string { data := #[] }, .slice none 0 0, .slice none 0 0, .string { data := #[103] }, .int .i64 1, .string { data := #[] }, .int .i64 0, .string { data := #[] }, .string { data := #[] }, .slice none 0 0, .slice none 0 0] 43)).alloc (.cells #[.string { data := #[112] }, .int .i64 1, .string { data := #[109] }, .slice none 0 0, .slice (some ⟨w.heap.size + 1 + 1 + 1 + 1, 0, none⟩) 2 2] 46)) (w.heap.size + 1 + 1 + 1 + 1 + 1) #[.string { data := #[112] }, .int .i64 1, .string { data := #[109] }, .slice none 0 0, .slice (some ⟨w.heap.size + 1 + 1 + 1 + 1, 0, none⟩) 2 2] 46 ∧ (((((((w.alloc (.cells #[.string { data := #[102] }, .int .i64 1, .string { data := #[] }, .int .i64 0, .string { data := #[] }, .string { data := #[] }, .slice none 0 0, .slice none 0 0] 43)).alloc (.cells #[.string { data := #[103] }, .int .i64 1, .string { data := #[] }, .int .i64 0, .string { data := #[] }, .string { data := #[] }, .slice none 0 0, .slice none 0 0] 43)).alloc (.cells #[.string { data := #[102] }, .int .i64 1, .string { data := #[] }, .int .i64 0, .string { data := #[] }, .string { data := #[] }, .slice none 0 0, .slice none 0 0] 43)).alloc (.cells #[.string { data := #[112] }, .int .i64 1, .string { data := #[109] }, .slice none 0 0, .slice (some ⟨w.heap.size + 1 + 1, 0, none⟩) 1 1] 46)).alloc (.cells #[.string { data := #[102] }, .int .i64 1, .string { data := #[] }, .int .i64 0, .string { data := #[] }, .string { data := #[] }, .slice none 0 0, .slice none 0 0, .string { data := #[103] }, .int .i64 1, .string { data := #[] }, .int .i64 0, .string { data := #[] }, .string { data := #[] }, .slice none 0 0, .slice none 0 0] 43)).alloc (.cells #[.string { data := #[112] }, .int .i64 1, .string { data := #[109] }, .slice none 0 0, .slice (some ⟨w.heap.size + 1 + 1 + 1 + 1, 0, none⟩) 2 2] 46))).heap.size = w.heap.size + 1 + 1 + 1 + 1 + 1 + 1 ∧ Below w.heap.size w ((((((w.alloc (.cells #[.string { data := #[102] }, .int .i64 1, .string { data := #[] }, .int .i64 0, .string { data := #[] }, .string { data := #[] }, .slice none 0 0, .slice none 0 0] 43)).alloc (.cells #[.string { data := #[103] }, .int .i64 1, .string { data := #[] }, .int .i64 0, .string { data := #[] }, .string { data := #[] }, .slice none 0 0, .slice none 0 0] 43)).alloc (.cells #[.string { data := #[102] }, .int .i64 1, .string { data := #[] }, .int .i64 0, .string { data := #[] }, .string { data := #[] }, .slice none 0 0, .slice none 0 0] 43)).alloc (.cells #[.string { data := #[112] }, .int .i64 1, .string { data := #[109] }, .slice none 0 0, .slice (some ⟨w.heap.size + 1 + 1, 0, none⟩) 1 1] 46)).alloc (.cells #[.string { data := #[102] }, .int .i64 1, .string { data := #[] }, .int .i64 0, .string { data := #[] }, .string { data := #[] }, .slice none 0 0, .slice none 0 0, .string { data := #[103] }, .int .i64 1, .string { data := #[] }, .int .i64 0, .string { data := #[] }, .string { data := #[] }, .slice none 0 0, .slice none 0 0] 43)).alloc (.cells #[.string { data := #[112] }, .int .i64 1, .string { data := #[109] }, .slice none 0 0, .slice (some ⟨w.heap.size + 1 + 1 + 1 + 1, 0, none⟩) 2 2] 46)) := by
  have z1 : ((w.alloc (.cells #[.string { data := #[102] }, .int .i64 1, .string { data := #[] }, .int .i64 0, .string { data := #[] }, .string { data := #[] }, .slice none 0 0, .slice none 0 0] 43))).heap.size = w.heap.size + 1 := by simp
  have z2 : (((w.alloc (.cells #[.string { data := #[102] }, .int .i64 1, .string { data := #[] }, .int .i64 0, .string { data := #[] }, .string { data := #[] }, .slice none 0 0, .slice none 0 0] 43)).alloc (.cells #[.string { data := #[103] }, .int .i64 1, .string { data := #[] }, .int .i64 0, .string { data := #[] }, .string { data := #[] }, .slice none 0 0, .slice none 0 0] 43))).heap.size = w.heap.size + 1 + 1 := by simp
  have z3 : ((((w.alloc (.cells #[.string { data := #[102] }, .int .i64 1, .string { data := #[] }, .int .i64 0, .string { data := #[] }, .string { data := #[] }, .slice none 0 0, .slice none 0 0] 43)).alloc (.cells #[.string { data := #[103] }, .int .i64 1, .string { data := #[] }, .int .i64 0, .string { data := #[] }, .string { data := #[] }, .slice none 0 0, .slice none 0 0] 43)).alloc (.cells #[.string { data := #[102] }, .int .i64 1, .string { data := #[] }, .int .i64 0, .string { data := #[] }, .string { data := #[] }, .slice none 0 0, .slice none 0 0] 43))).heap.size = w.heap.size + 1 + 1 + 1 := by simp
  have z4 : (((((w.alloc (.cells #[.string { data := #[102] }, .int .i64 1, .string { data := #[] }, .int .i64 0, .string { data := #[] }, .string { data := #[] }, .slice none 0 0, .slice none 0 0] 43)).alloc (.cells #[.string { data := #[103] }, .int .i64 1, .string { data := #[] }, .int .i64 0, .string { data := #[] }, .string { data := #[] }, .slice none 0 0, .slice none 0 0] 43)).alloc (.cells #[.string { data := #[102] }, .int .i64 1, .string { data := #[] }, .int .i64 0, .string { data := #[] }, .string { data := #[] }, .slice none 0 0, .slice none 0 0] 43)).alloc (.cells #[.string { data := #[112] }, .int .i64 1, .string { data := #[109] }, .slice none 0 0, .slice (some ⟨w.heap.size + 1 + 1, 0, none⟩) 1 1] 46))).heap.size = w.heap.size + 1 + 1 + 1 + 1 := by simp
  have z5 : ((((((w.alloc (.cells #[.string { data := #[102] }, .int .i64 1, .string { data := #[] }, .int .i64 0, .string { data := #[] }, .string { data := #[] }, .slice none 0 0, .slice none 0 0] 43)).alloc (.cells #[.string { data := #[103] }, .int .i64 1, .string { data := #[] }, .int .i64 0, .string { data := #[] }, .string { data := #[] }, .slice none 0 0, .slice none 0 0] 43)).alloc (.cells #[.string { data := #[102] }, .int .i64 1, .string { data := #[] }, .int .i64 0, .string { data := #[] }, .string { data := #[] }, .slice none 0 0, .slice none 0 0] 43)).alloc (.cells #[.string { data := #[112] }, .int .i64 1, .string { data := #[109] }, .slice none 0 0, .slice (some ⟨w.heap.size + 1 + 1, 0, none⟩) 1 1] 46)).alloc (.cells #[.string { data := #[102] }, .int .i64 1, .string { data := #[] }, .int .i64 0, .string { data := #[] }, .string { data := #[] }, .slice none 0 0, .slice none 0 0, .string { data := #[103] }, .int .i64 1, .string { data := #[] }, .int .i64 0, .string { data := #[] }, .string { data := #[] }, .slice none 0 0, .slice none 0 0] 43))).heap.size = w.heap.size + 1 + 1 + 1 + 1 + 1 := by simp
  have b2 := Blk.new ((w.alloc (.cells #[.string { data := #[102] }, .int .i64 1, .string { data := #[] }, .int .i64 0, .string { data := #[] }, .string { data := #[] }, .slice none 0 0, .slice none 0 0] 43)).alloc (.cells #[.string { data := #[103] }, .int .i64 1, .string { data := #[] }, .int .i64 0, .string { data := #[] }, .string { data := #[] }, .slice none 0 0, .slice none 0 0] 43)) #[.string { data := #[102] }, .int .i64 1, .string { data := #[] }, .int .i64 0, .string { data := #[] }, .string { data := #[] }, .slice none 0 0, .slice none 0 0] 43
  have b3 := Blk.new (((w.alloc (.cells #[.string { data := #[102] }, .int .i64 1, .string { data := #[] }, .int .i64 0, .string { data := #[] }, .string { data := #[] }, .slice none 0 0, .slice none 0 0] 43)).alloc (.cells #[.string { data := #[103] }, .int .i64 1, .string { data := #[] }, .int .i64 0, .string { data := #[] }, .string { data := #[] }, .slice none 0 0, .slice none 0 0] 43)).alloc (.cells #[.string { data := #[102] }, .int .i64 1, .string { data := #[] }, .int .i64 0, .string { data := #[] }, .string { data := #[] }, .slice none 0 0, .slice none 0 0] 43)) #[.string { data := #[112] }, .int .i64 1, .string { data := #[109] }, .slice none 0 0, .slice (some ⟨w.heap.size + 1 + 1, 0, none⟩) 1 1] 46
  have b4 := Blk.new ((((w.alloc (.cells #[.string { data := #[102] }, .int .i64 1, .string { data := #[] }, .int .i64 0, .string { data := #[] }, .string { data := #[] }, .slice none 0 0, .slice none 0 0] 43)).alloc (.cells #[.string { data := #[103] }, .int .i64 1, .string { data := #[] }, .int .i64 0, .string { data := #[] }, .string { data := #[] }, .slice none 0 0, .slice none 0 0] 43)).alloc (.cells #[.string { data := #[102] }, .int .i64 1, .string { data := #[] }, .int .i64 0, .string { data := #[] }, .string { data := #[] }, .slice none 0 0, .slice none 0 0] 43)).alloc (.cells #[.string { data := #[112] }, .int .i64 1, .string { data := #[109] }, .slice none 0 0, .slice (some ⟨w.heap.size + 1 + 1, 0, none⟩) 1 1] 46)) #[.string { data := #[102] }, .int .i64 1, .string { data := #[] }, .int .i64 0, .string { data := #[] }, .string { data := #[] }, .slice none 0 0, .slice none 0 0, .string { data := #[103] }, .int .i64 1, .string { data := #[] }, .int .i64 0, .string { data := #[] }, .string { data := #[] }, .slice none 0 0, .slice none 0 0] 43
  have b5 := Blk.new (((((w.alloc (.cells #[.string { data := #[102] }, .int .i64 1, .string { data := #[] }, .int .i64 0, .string { data := #[] }, .string { data := #[] }, .slice none 0 0, .slice none 0 0] 43)).alloc (.cells #[.string { data := #[103] }, .int .i64 1, .string { data := #[] }, .int .i64 0, .string { data := #[] }, .string { data := #[] }, .slice none 0 0, .slice none 0 0] 43)).alloc (.cells #[.string { data := #[102] }, .int .i64 1, .string { data := #[] }, .int .i64 0, .string { data := #[] }, .string { data := #[] }, .slice none 0 0, .slice none 0 0] 43)).alloc (.cells #[.string { data := #[112] }, .int .i64 1, .string { data := #[109] }, .slice none 0 0, .slice (some ⟨w.heap.size + 1 + 1, 0, none⟩) 1 1] 46)).alloc (.cells #[.string { data := #[102] }, .int .i64 1, .string { data := #[] }, .int .i64 0, .string { data := #[] }, .string { data := #[] }, .slice none 0 0, .slice none 0 0, .string { data := #[103] }, .int .i64 1, .string { data := #[] }, .int .i64 0, .string { data := #[] }, .string { data := #[] }, .slice none 0 0, .slice none 0 0] 43)) #[.string { data := #[112] }, .int .i64 1, .string { data := #[109] }, .slice none 0 0, .slice (some ⟨w.heap.size + 1 + 1 + 1 + 1, 0, none⟩) 2 2] 46
  rw [z2] at b2
  rw [z3] at b3
  rw [z4] at b4
  rw [z5] at b5
  exact ⟨((b2.alloc _).alloc _).alloc _, (b3.alloc _).alloc _, b4.alloc _, b5, by simp, ((((((Below.refl w.heap.size w).alloc (Nat.le_refl _) _).alloc (by simp) _).alloc (by simp; omega) _).alloc (by simp; omega) _).alloc (by simp; omega) _).alloc (by simp; omega) _⟩
theorem no_rows {A A' : Option Addr} {w : World} {B : Nat} {l : List Nm} (h : NmsAt w B A l) : NmsAt w B A l := h
set_option maxRecDepth 100000 in
set_option maxHeartbeats 4000000 in
theorem upB_c (w : World) : Calls Try.prog 5 #[] w fun e w' => e = .returned (.bool true) ∧ Below w.heap.size w w' := by
  go_enter Try.func5, Try.ntmps5
  go_upto_region 5 with fail
  obtain ⟨b2, b3, b4, b5, hz, hb0⟩ := six w
  generalize ((((((w.alloc (.cells #[.string { data := #[102] }, .int .i64 1, .string { data := #[] }, .int .i64 0, .string { data := #[] }, .string { data := #[] }, .slice none 0 0, .slice none 0 0] 43)).alloc (.cells #[.string { data := #[103] }, .int .i64 1, .string { data := #[] }, .int .i64 0, .string { data := #[] }, .string { data := #[] }, .slice none 0 0, .slice none 0 0] 43)).alloc (.cells #[.string { data := #[102] }, .int .i64 1, .string { data := #[] }, .int .i64 0, .string { data := #[] }, .string { data := #[] }, .slice none 0 0, .slice none 0 0] 43)).alloc (.cells #[.string { data := #[112] }, .int .i64 1, .string { data := #[109] }, .slice none 0 0, .slice (some ⟨w.heap.size + 1 + 1, 0, none⟩) 1 1] 46)).alloc (.cells #[.string { data := #[102] }, .int .i64 1, .string { data := #[] }, .int .i64 0, .string { data := #[] }, .string { data := #[] }, .slice none 0 0, .slice none 0 0, .string { data := #[103] }, .int .i64 1, .string { data := #[] }, .int .i64 0, .string { data := #[] }, .string { data := #[] }, .slice none 0 0, .slice none 0 0] 43)).alloc (.cells #[.string { data := #[112] }, .int .i64 1, .string { data := #[109] }, .slice none 0 0, .slice (some ⟨w.heap.size + 1 + 1 + 1 + 1, 0, none⟩) 2 2] 46)) = W at b2 b3 b4 b5 hz hb0 ⊢
  have hA : IfsAt W W.heap.size (some ⟨w.heap.size + 1 + 1 + 1, 0, none⟩) bA := row_if (x := ⟨{ data := #[112] }, 1, { data := #[109] }, [], [bF]⟩) (ta := none) (tc := 0) (vc := 1) b3 (by omega) ⟨⟨by decide, by decide, by decide, by decide, by decide⟩, none, 0, _, 1, rfl, NmsAt.nil _ _ _, rows_f b2 (by omega), Nat.le_refl _, Nat.le_refl _⟩
  have hB : IfsAt W W.heap.size (some ⟨w.heap.size + 1 + 1 + 1 + 1 + 1, 0, none⟩) bB := row_if (x := ⟨{ data := #[112] }, 1, { data := #[109] }, [], [bF, bG]⟩) (ta := none) (tc := 0) (vc := 2) b5 (by omega) ⟨⟨by decide, by decide, by decide, by decide, by decide⟩, none, 0, _, 2, rfl, NmsAt.nil _ _ _, rows_fg b4 (by omega), Nat.le_refl _, Nat.le_refl _⟩
  have k1 := fun V h1 h2 hB => ofYes_c (some ⟨w.heap.size + 1 + 1 + 1, 0, none⟩) (some ⟨w.heap.size + 1 + 1 + 1 + 1 + 1, 0, none⟩) 1 1 W.heap.size bA bB V h1 h2 hB (by decide) (by decide) fair_ab few_a few_b
  have k2 := fun V h1 h2 hB => changes_c (some ⟨w.heap.size + 1 + 1 + 1, 0, none⟩) (some ⟨w.heap.size + 1 + 1 + 1 + 1 + 1, 0, none⟩) 1 1 W.heap.size bA bB V h1 h2 hB (by decide) (by decide) fair_ab few_a few_b
  simp only [bump_ab] at k1
  simp only [chg_ab] at k2
  change ∀ V, _ → _ → _ → Calls _ _ #[.slice _ 1 _, .slice _ 1 _] V _ at k1
  change ∀ V, _ → _ → _ → Calls _ _ #[.slice _ 1 _, .slice _ 1 _] V _ at k2
  have K1 := Lib.hid k1
  have K2 := Lib.hid k2
  clear k1 k2
  have HA := Lib.hid hA
  have HB := Lib.hid hB
  have B0 := Lib.hid hb0
  clear hA hB hb0 b2 b3 b4 b5 hz
  go_upto_region 6 with (go_at_call 8; refine (K1.out _ HA.out HB.out (Nat.le_refl _)).mono ?_; rintro e w1 ⟨rfl, hb⟩; have B1 := Lib.hid hb; clear hb)
  go_upto_region 7 with (go_at_call 7; refine (K2.out _ (HA.out.under B1.out) (HB.out.under B1.out) B1.out.size).mono ?_; rintro e w2 ⟨v, rfl, ho, hb⟩; have B2 := Lib.hid (B1.out.trans (hb.mono B1.out.size)); have R2 := Lib.hid (ChgAt.own ho); clear hb ho)
  obtain ⟨p, cap, rfl, hc⟩ := R2.out
  obtain ⟨b8, o8, rfl, l8, g8⟩ := hc (by decide)
  have c0 := g8 0 (by decide) 0 (by decide)
  simp [Chg.cells] at c0
  have hz := fair_zb
  have ee := eq_err
  have K3 := Lib.hid (fun V h1 h2 hB => ofNo_c (some ⟨w2.heap.size, 0, none⟩) (some ⟨w.heap.size + 1 + 1 + 1 + 1 + 1, 0, none⟩) 1 1 (w2.heap.size + 1) bZ bB V h1 h2 hB (by decide) (by decide) fair_zb)
  have hZ : IfsAt (w2.alloc (.cells #[.string { data := #[] }, .int .i64 0, .string { data := #[] }, .slice none 0 0, .slice none 0 0] 46)) (w2.heap.size + 1) (some ⟨w2.heap.size, 0, none⟩) bZ := row_if (x := ⟨{ data := #[] }, 0, { data := #[] }, [], []⟩) (ta := none) (tc := 0) (va := none) (vc := 0) (Blk.new w2 _ _) (by omega) ⟨⟨by decide, by decide, by decide, by decide, by decide⟩, none, 0, none, 0, rfl, NmsAt.nil _ _ _, NmsAt.nil _ _ _, Nat.le_refl _, Nat.le_refl _⟩
  have hB3 : IfsAt (w2.alloc (.cells #[.string { data := #[] }, .int .i64 0, .string { data := #[] }, .slice none 0 0, .slice none 0 0] 46)) (w2.heap.size + 1) (some ⟨w.heap.size + 1 + 1 + 1 + 1 + 1, 0, none⟩) bB := ((HB.out.under B2.out).alloc B2.out.size _).mono (Nat.le_succ_of_le B2.out.size)
  have hz3 : w2.heap.size + 1 ≤ (w2.alloc (.cells #[.string { data := #[] }, .int .i64 0, .string { data := #[] }, .slice none 0 0, .slice none 0 0] 46)).heap.size := by simp
  have c1 : (w2.alloc (.cells #[.string { data := #[] }, .int .i64 0, .string { data := #[] }, .slice none 0 0, .slice none 0 0] 46)).cell? ⟨b8, o8, none⟩ = some (.int .i64 4) := (World.cell?_alloc_lt _ _ _ l8).trans c0
  have l9 : b8 < (w2.alloc (.cells #[.string { data := #[] }, .int .i64 0, .string { data := #[] }, .slice none 0 0, .slice none 0 0] 46)).heap.size := Nat.lt_of_lt_of_le l8 (by simp)
  have B3 := Lib.hid ((B0.out.trans (B2.out.mono B0.out.size)).alloc (Nat.le_trans B0.out.size B2.out.size) (.cells #[.string { data := #[] }, .int .i64 0, .string { data := #[] }, .slice none 0 0, .slice none 0 0] 46))
  have HZ := Lib.hid hZ
  have HB3 := Lib.hid hB3
  have C1 := Lib.hid c1
  have L9 := Lib.hid l9
  have HZ3 := Lib.hid hz3
  clear hc g8 c0 l8 hz hZ hB3 c1 l9 hz3 K1 K2 HA HB R2 B1
  go_wp2_with (go_at_call 8; refine (K3.out _ HZ.out HB3.out HZ3.out).mono ?_; rintro e w4 ⟨rfl, hb⟩; have c4 := (hb.cell (p := ⟨b8, _, none⟩) L9.out).trans C1.out; have l4 := Nat.lt_of_lt_of_le L9.out hb.size; have B4 := Lib.hid (B3.out.trans (hb.mono B3.out.size)); clear hb)
  go_ret
  exact ⟨rfl, B4.out⟩
end Go.Proofs.Ytcohjjepigikjaa
namespace Go.Proofs.Ytcohjjepigikjaa
open Go.RowKit
set_option linter.unusedSimpArgs false
set_option linter.unusedVariables false
set_option maxRecDepth 100000 in
set_option maxHeartbeats 8000000 in
theorem fair_c (A A' : Option Addr) (c c' B : Nat) (a b : List If) (w : World) (h1 : IfsAt w B A a) (h2 : IfsAt w B A' b) (hB : B ≤ w.heap.size) (hl : a.length ≤ 1000) (hl' : b.length ≤ 1000) (hfa : a.all fewX = true) (hfb : b.all fewX = true) :
    Calls Try.prog 11 #[.slice A a.length c, .slice A' b.length c'] w fun e w' => e = .returned (.bool (fairB a b)) ∧ Below w.heap.size w w' := by
  have H1 := Lib.hid h1
  have H2 := Lib.hid h2
  have hma := fun w h hB => refMay12_c a A c B w h hB (by unfold maxLen; omega) hfa
  have hmb := fun w h hB => refMay12_c b A' c' B w h hB (by unfold maxLen; omega) hfb
  obtain ⟨ma, hm1⟩ : ∃ m, mayP a = m := ⟨_, rfl⟩
  obtain ⟨mb, hm2⟩ : ∃ m, mayP b = m := ⟨_, rfl⟩
  obtain ⟨q, hq⟩ : ∃ q, fairB a b = q := ⟨_, rfl⟩
  have hq2 : (ma && (mb && headB a b)) = q := by rw [← hq, fairB, hm1, hm2]
  simp only [hq]
  simp only [hm1] at hma
  simp only [hm2] at hmb
  have HQ := Lib.hid hq2
  have HMA := Lib.hid hma
  have HMB := Lib.hid hmb
  clear h1 h2 hma hmb hm1 hm2 hfa hfb hq hq2
  go_enter Try.func11, Try.ntmps11
  go_upto_region 2 with (go_at_call 10; refine (HMA.out _ H1.out hB).mono ?_; rintro e w1 ⟨rfl, hb⟩; have B1 := Lib.hid hb; clear hb)
  go_upto_region 3 with (go_at_call 10; refine (HMB.out _ (H2.out.under (B1.out.mono hB)) (Nat.le_trans hB B1.out.size)).mono ?_; rintro e w2 ⟨rfl, hb⟩; have B2 := Lib.hid (B1.out.trans (hb.mono B1.out.size)); clear hb)
  cases ma
  · have hr : q = false := by rw [← HQ.out]; rfl
    subst hr
    go_quiet (fail)
    go_wp2_with fail
    go_ret
    exact ⟨rfl, below_drewN B2.out _⟩
  cases mb
  · have hr : q = false := by rw [← HQ.out]; rfl
    subst hr
    go_quiet (fail)
    go_wp2_with fail
    go_ret
    exact ⟨rfl, below_drewN B2.out _⟩
  by_cases hn1 : a.length = 0
  · have ha : a = [] := List.eq_nil_of_length_eq_zero hn1
    have hr : q = true := by rw [← HQ.out, ha, head_nil1]; rfl
    subst hr ha
    go_quiet (fail)
    go_wp2_with fail
    go_ret
    exact ⟨rfl, below_drewN B2.out _⟩
  by_cases hn2 : b.length = 0
  · have hb0 : b = [] := List.eq_nil_of_length_eq_zero hn2
    have hr : q = true := by rw [← HQ.out, hb0, head_nil2]; rfl
    have hz : ((a.length : Int) == 0) = false := by simp; exact fun e => hn1 (by rw [e]; rfl)
    subst hr hb0
    clear hn1
    go_quiet (fail)
    go_wp2_with fail
    go_ret
    exact ⟨rfl, below_drewN B2.out _⟩
  have hne1 : 0 < a.length := by omega
  have hne2 : 0 < b.length := by omega
  obtain ⟨x, hx⟩ : ∃ x, a[0] = x := ⟨_, rfl⟩
  obtain ⟨y, hy⟩ : ∃ y, b[0] = y := ⟨_, rfl⟩
  obtain ⟨-, ba, oa, -, -, -, -, rfl, hba, -, -, -, -, r0, r1, -⟩ := H1.out.elem hne1 hx
  obtain ⟨-, bb, ob, -, -, -, -, rfl, hbb, -, -, -, -, s0, s1, -⟩ := H2.out.elem hne2 hy
  simp at r0 r1 s0 s1
  have hbaW : ba < w.heap.size := by omega
  have hbbW : bb < w.heap.size := by omega
  rw [← B2.out.cell (p := ⟨ba, _, none⟩) hbaW] at r0 r1
  rw [← B2.out.cell (p := ⟨bb, _, none⟩) hbbW] at s0 s1
  have hla : ba < w2.heap.size := Nat.lt_of_lt_of_le hbaW B2.out.size
  have hlb : bb < w2.heap.size := Nat.lt_of_lt_of_le hbbW B2.out.size
  have hh := head_at hne1 hne2 hx hy
  obtain ⟨ep, hep⟩ : ∃ e, (x.pkg.toList == y.pkg.toList) = e := ⟨_, rfl⟩
  obtain ⟨em, hem⟩ : ∃ e, (x.major == y.major) = e := ⟨_, rfl⟩
  have hr : q = (ep && em) := by rw [← HQ.out, hh, hep, hem]; rfl
  subst hr
  have hz1 : ((a.length : Int) == 0) = false := by simp; exact fun e => hn1 (by rw [e]; rfl)
  have hz2 : ((b.length : Int) == 0) = false := by simp; exact fun e => hn2 (by rw [e]; rfl)
  clear hh hx hy hn1 hn2
  cases ep
  all_goals
    go_quiet (fail)
    go_wp2_with fail
    go_ret
    exact ⟨rfl, below_drewN B2.out _⟩
end Go.Proofs.Ytcohjjepigikjaa
namespace Go.Proofs.Ytcohjjepigikjaa
open Go.RowKit
set_option linter.unusedSimpArgs false
set_option linter.unusedVariables false
theorem chgEq (a : Int) (s t : ByteArray) (o : Bool) (w : World) : (Op.equalIn 10000 48 (.agg #[.int .i64 a, .string s, .string t, .bool o]) (.agg #[.int .i64 a, .string s, .string t, .bool o])).run Try.prog w = .ok true w := by
  have hS : Try.prog.underlying 48 = some (.struct (Try.prog.fieldsOf 48)) := by kernel_rfl
  have hp : Try.prog.stoodInHeld 48 = false := by kernel_rfl
  rw [show (10000 : Nat) = 9999 + 1 from rfl, run_equalIn_agg w 9999 48 _ _ hS hp]
  simp only [Program.fieldsOf, Try.underlying48]
  go_simp
  try simp
theorem chgNeq (a : Int) (s t : ByteArray) (o : Bool) (w : World) : (binOp .neq 48 (.agg #[.int .i64 a, .string s, .string t, .bool o]) (.agg #[.int .i64 a, .string s, .string t, .bool o])).run Try.prog w = .ok (.bool false) w := by
  rw [run_neq_struct, chgEq]; rfl
set_option maxHeartbeats 4000000 in
theorem chgSame_c (l : List Chg) (v v2 : Value) (w : World) (h1 : ChgAt w v l) (h2 : ChgAt w v2 l) (hl : l.length ≤ 2000000) : Calls Try.prog 13 #[v, v2] w fun e w' => e = .returned (.bool true) ∧ Below w.heap.size w w' := by
  obtain ⟨p, cap, rfl, h1⟩ := h1
  obtain ⟨p2, cap2, rfl, h2⟩ := h2
  have cn := chgNeq
  have H1 := Lib.hid h1
  have H2 := Lib.hid h2
  clear h1 h2
  go_enter Try.func13, Try.ntmps13
  go_wp2_with fail
  go_loopw [5] (fun i wr => ∃ k : Nat, i = .int .i64 k ∧ k ≤ l.length ∧ Below w.heap.size w wr) (fun i _ => l.length - (intOf i).toNat)
  case atStart => exact ⟨0, rfl, Nat.zero_le _, Below.refl _ _⟩
  case round =>
    obtain ⟨k, rfl, hk, hbel⟩ := hrel
    by_cases hlt : k < l.length
    · obtain ⟨b, o, rfl, l1, g1⟩ := H1.out (by omega)
      obtain ⟨b2, o2, rfl, l2, g2⟩ := H2.out (by omega)
      have c0 := (hbel.cell (p := ⟨b, _, none⟩) l1).trans (g1 k hlt 0 (by decide))
      have c1 := (hbel.cell (p := ⟨b, _, none⟩) l1).trans (g1 k hlt 1 (by decide))
      have c2 := (hbel.cell (p := ⟨b, _, none⟩) l1).trans (g1 k hlt 2 (by decide))
      have c3 := (hbel.cell (p := ⟨b, _, none⟩) l1).trans (g1 k hlt 3 (by decide))
      have d0 := (hbel.cell (p := ⟨b2, _, none⟩) l2).trans (g2 k hlt 0 (by decide))
      have d1 := (hbel.cell (p := ⟨b2, _, none⟩) l2).trans (g2 k hlt 1 (by decide))
      have d2 := (hbel.cell (p := ⟨b2, _, none⟩) l2).trans (g2 k hlt 2 (by decide))
      have d3 := (hbel.cell (p := ⟨b2, _, none⟩) l2).trans (g2 k hlt 3 (by decide))
      simp [Chg.cells] at c0 c1 c2 c3 d0 d1 d2 d3
      clear g1 g2
      have hltI : (k : Int) < (l.length : Int) := by omega
      go_wp2_with fail
      go_quiet (fail)
      go_wp2_with fail
      exact ⟨⟨k + 1, by go_num, by omega, below_drewN hbel _⟩, by simp [intOf]; omega⟩
    · have hltI : ¬ (k : Int) < (l.length : Int) := by omega
      go_wp2_with fail
      go_ret
      exact ⟨rfl, hbel⟩
set_option maxHeartbeats 4000000 in
theorem refBump_c (l : List Chg) (v : Value) (w : World) (h1 : ChgAt w v l) (hk : ∀ c ∈ l, 1 ≤ c.kind) (hl : l.length ≤ 2000000) : Calls Try.prog 14 #[v] w fun e w' => e = .returned (.int .i64 (ofF l)) ∧ w' = w := by
  obtain ⟨p, cap, rfl, h1⟩ := h1
  obtain ⟨q, hq⟩ : ∃ q, ofF l = q := ⟨_, rfl⟩
  rw [hq]
  have HQ := Lib.hid hq
  have H1 := Lib.hid h1
  have HK := Lib.hid hk
  clear h1 hk hq
  go_enter Try.func14, Try.ntmps14
  go_wp2_with fail
  go_loop [3, 4] (fun o i => ∃ k : Nat, i = .int .i64 k ∧ k ≤ l.length ∧ (∃ ov : Int, o = .int .i64 ov ∧ Hid (ov = if k = 0 then 1 else 2)) ∧ ∀ i (h : i < l.length), i < k → bigB l[i] = false) (fun _ i => l.length - (intOf i).toNat)
  case atStart => exact ⟨0, rfl, Nat.zero_le _, ⟨1, rfl, Lib.hid rfl⟩, fun i _ hi => absurd hi (by omega)⟩
  case round =>
    obtain ⟨k, rfl, hk, ⟨ov, rfl, HOV⟩, hall⟩ := hrel
    have HA := Lib.hid hall
    clear hall
    by_cases hlt : k < l.length
    · obtain ⟨b, o, rfl, l1, g1⟩ := H1.out (by omega)
      obtain ⟨x, hx⟩ : ∃ x, l[k] = x := ⟨_, rfl⟩
      have c0 := g1 k hlt 0 (by decide)
      rw [hx] at c0
      simp [Chg.cells] at c0
      have hk1 := HK.out x (by rw [← hx]; exact List.getElem_mem hlt)
      have HX := Lib.hid hx
      clear hx g1
      have hltI : (k : Int) < (l.length : Int) := by omega
      by_cases e2 : x.kind ≤ 2
      · have hr := HQ.out.symm.trans (ofF_big hlt (by rw [HX.out, bigB]; simp; omega))
        subst hr
        go_wp2_with fail
        go_ret
        exact ⟨rfl, rfl⟩
      · have hbad : bigB l[k] = false := by rw [HX.out, bigB]; simp; omega
        have HBAD := Lib.hid hbad
        clear hbad
        go_wp2_with fail
        exact ⟨⟨k + 1, by go_num, by omega, ⟨2, rfl, Lib.hid (by rw [if_neg (by omega)])⟩, fun i hi hik => by
          by_cases e : i = k
          · subst e; exact HBAD.out
          · exact HA.out i hi (by omega)⟩, by simp [intOf]; omega⟩
    · obtain rfl : k = l.length := by omega
      have hltI : ¬ (l.length : Int) < (l.length : Int) := by omega
      have hr := HQ.out.symm.trans (ofF_small fun i hi => HA.out i hi hi)
      have hov : ov = q := HOV.out.trans hr.symm
      subst hov
      clear hr
      go_wp2_with fail
      go_ret
      exact ⟨rfl, rfl⟩
end Go.Proofs.Ytcohjjepigikjaa
namespace Go.Proofs.Ytcohjjepigikjaa
open Go.RowKit
set_option linter.unusedSimpArgs false
set_option linter.unusedVariables false
/-- the changes of the first q sorts of a module's names -/
def partM (a b : List If) (m : ByteArray) : Nat → List Chg
  | 0 => []
  | q + 1 => partM a b m q ++ rowsF m (selF ((firstIface a m).getD zIf) ((q : Int) == 0)) (selF ((firstIface b m).getD zIf) ((q : Int) == 0)) ((q : Int) == 0)
theorem partM_two (a b : List If) (m : ByteArray) : partM a b m 2 = modF a b m := by
  simp [partM, modF, selF]
theorem sel_plain {l : List If} (h : mayP l = true) (m : ByteArray) (o : Bool) {x : Nm} (hx : x ∈ selF ((firstIface l m).getD zIf) o) : PlainB x.ty = true := by
  cases hf : firstIface l m with
  | none => rw [hf] at hx; cases o <;> simp [selF, zIf] at hx
  | some y =>
    have hy := may_iface h (List.mem_of_find?_eq_some hf)
    rw [imayB] at hy
    simp only [Bool.and_eq_true] at hy
    rw [hf] at hx
    cases o
    · exact named_plain hy.2.2.2.2.2 hx
    · exact named_plain hy.2.2.2.2.1 hx
theorem sel_few {l : List If} (h : l.all fewX = true) (m : ByteArray) (o : Bool) : (selF ((firstIface l m).getD zIf) o).length ≤ 200 := by
  have := first_few h m
  cases o
  · exact this.2
  · exact this.1
theorem partM_len {a b : List If} (ha : a.all fewX = true) (hb : b.all fewX = true) (m : ByteArray) : ∀ q, (partM a b m q).length ≤ 400 * q
  | 0 => by simp [partM]
  | q + 1 => by
    have h1 := partM_len ha hb m q
    have h2 := rowsF_len m (selF ((firstIface a m).getD zIf) ((q : Int) == 0)) (selF ((firstIface b m).getD zIf) ((q : Int) == 0)) ((q : Int) == 0)
    have h3 := sel_few ha m ((q : Int) == 0)
    have h4 := sel_few hb m ((q : Int) == 0)
    rw [partM, List.length_append]; omega
theorem laidX (w : World) (C : Array Value) (T : TypeId) : Below w.heap.size w ((w.alloc (.cells C T)).drew) ∧ Blk ((w.alloc (.cells C T)).drew) w.heap.size C T ∧ ((w.alloc (.cells C T)).drew).heap.size = w.heap.size + 1 := ⟨((Below.refl _ _).alloc (Nat.le_refl _) _).drew, (Blk.new _ _ _).drew, by show (w.alloc (.cells C T)).heap.size = _; simp⟩
theorem kindO_cases (fa fb : Option Nm) (o : Bool) : kindO fa fb o = 0 ∨ 0 < kindO fa fb o := by
  cases fa with
  | none => exact .inr (by simp [kindO])
  | some x =>
    cases fb with
    | none => exact .inr (by simp [kindO])
    | some y =>
      simp only [kindO]
      rcases turn_cases x.ty y.ty o with e | e | e <;> omega
set_option maxRecDepth 100000 in
set_option maxHeartbeats 40000000 in
theorem refChg_c (A A' : Option Addr) (c c' B : Nat) (a b : List If) (w : World) (h1 : IfsAt w B A a) (h2 : IfsAt w B A' b) (hB : B ≤ w.heap.size) (hl : a.length ≤ 1000) (hl' : b.length ≤ 1000) (hfa : a.all fewX = true) (hfb : b.all fewX = true) (ma : mayP a = true) (mb : mayP b = true) :
    Calls Try.prog 12 #[.slice A a.length c, .slice A' b.length c'] w fun e w' => ∃ v, e = .returned v ∧ w'.ownsRow w.heap.size 48 4 v (chgF a b).length (flatC (chgF a b)) ∧ Below w.heap.size w w' := by
  obtain ⟨i0, hi, hz0, hz1, hz2⟩ := info_parts info_chg
  have H1 := Lib.hid h1
  have H2 := Lib.hid h2
  have HFA := Lib.hid hfa
  have HFB := Lib.hid hfb
  have HMA := Lib.hid ma
  have HMB := Lib.hid mb
  obtain ⟨R, hR⟩ : ∃ R, chgF a b = R := ⟨_, rfl⟩
  simp only [hR]
  have HR := Lib.hid hR
  have HZlen := Lib.hid (show ([] : List ByteArray).length = 0 from rfl)
  clear h1 h2 hfa hfb ma mb hR
  go_enter Try.func12, Try.ntmps12
  go_wp2_with fail
  go_loopw [5, 6] (fun v i wk => ∃ (k : Nat) (vv : Value), vv = v ∧ i = .int .i64 k ∧ k ≤ a.length ∧ Below w.heap.size w wk ∧ StrV wk w.heap.size vv (riseL [] ((a.map If.mod).take k))) (fun _ i _ => a.length - (intOf i).toNat)
  case atStart => exact ⟨0, _, rfl, rfl, Nat.zero_le _, Below.refl _ _, .inl ⟨rfl, rfl⟩⟩
  case round =>
    rename World => wka
    obtain ⟨k, vva, rfl, rfl, hk, hb, hv⟩ := hrel
    have HBK := Lib.hid hb
    have HVV := Lib.hid hv
    have hsza := hb.size
    clear hb hv
    by_cases hlt : k < a.length
    · have hltI : (k : Int) < (a.length : Int) := by omega
      obtain ⟨x, hx⟩ : ∃ x, a[k] = x := ⟨_, rfl⟩
      obtain ⟨-, bz, oz, ta, tc, va, vc, rfl, hbz, -, -, -, -, -, -, c2, -, -⟩ := (H1.out.under (HBK.out.mono hB)).elem hlt hx
      have hbw : bz < wka.heap.size := by omega
      have hkk : k ≤ 1000 := by
        skip
        omega
      have hlen : (riseL [] ((a.map If.mod).take k)).length ≤ 100000 := by
        have h1 := riseL_len ((a.map If.mod).take k) []
        have h2 := List.length_take_le k (a.map If.mod)
        have h3 : (a.map If.mod).length = a.length := List.length_map ..
        have h4 := HZlen.out
        skip
        omega
      have hnext : riseF (riseL [] ((a.map If.mod).take k)) x.mod = riseL [] ((a.map If.mod).take (k + 1)) := by
        rw [riseL_succ (by rw [List.length_map]; exact hlt), List.getElem_map, hx]
      have HL := Lib.hid hlen
      have HN := Lib.hid hnext
      have HC := Lib.hid (rise_c w.heap.size _ x.mod _ wka HVV.out (by omega) HL.out)
      clear hlen hnext hx
      go_wp2_with (go_at_call 22; refine HC.out.mono ?_; rintro e wq ⟨vq, rfl, hs, hb⟩)
      exact ⟨⟨k + 1, vq, rfl, by go_num, by omega, HBK.out.trans (hb.mono HBK.out.size), by rw [← HN.out]; exact hs⟩, by simp [intOf]; omega⟩
    · obtain rfl : k = a.length := by omega
      have hltI : ¬ (a.length : Int) < (a.length : Int) := by omega
      have htk : (a.map If.mod).take a.length = a.map If.mod := List.take_of_length_le (by rw [List.length_map]; exact Nat.le_refl _)
      have HSa := Lib.hid (show StrV wka w.heap.size vva (riseL [] (a.map If.mod)) by have := HVV.out; rw [htk] at this; exact this)
      have HBa := Lib.hid HBK.out
      clear HVV HBK htk
      obtain ⟨V1, hV1⟩ : ∃ V, riseL [] (a.map If.mod) = V := ⟨_, rfl⟩
      rw [hV1] at HSa
      have HV1 := Lib.hid hV1
      have HV1len := Lib.hid (show V1.length ≤ 1000 by rw [← hV1]; have := riseL_len (a.map If.mod) []; rw [List.length_map] at this; simp at this; omega)
      clear hV1
      go_wp2_with fail
      go_loopw [5, 7] (fun v i wk => ∃ (k : Nat) (vv : Value), vv = v ∧ i = .int .i64 k ∧ k ≤ b.length ∧ Below wka.heap.size wka wk ∧ StrV wk w.heap.size vv (riseL V1 ((b.map If.mod).take k))) (fun _ i _ => b.length - (intOf i).toNat)
      case atStart => exact ⟨0, _, rfl, rfl, Nat.zero_le _, Below.refl _ _, HSa.out⟩
      case round =>
        rename World => wkb
        obtain ⟨k, vvb, rfl, rfl, hk, hb, hv⟩ := hrel
        have HBK := Lib.hid hb
        have HVV := Lib.hid hv
        have hszb := hb.size
        clear hb hv
        by_cases hlt : k < b.length
        · have hltI : (k : Int) < (b.length : Int) := by omega
          obtain ⟨x, hx⟩ : ∃ x, b[k] = x := ⟨_, rfl⟩
          obtain ⟨-, bz, oz, ta, tc, va, vc, rfl, hbz, -, -, -, -, -, -, c2, -, -⟩ := (H2.out.under ((HBa.out.trans (HBK.out.mono HBa.out.size)).mono hB)).elem hlt hx
          have hbw : bz < wkb.heap.size := by omega
          have hkk : k ≤ 1000 := by
            skip
            omega
          have hlen : (riseL V1 ((b.map If.mod).take k)).length ≤ 100000 := by
            have h1 := riseL_len ((b.map If.mod).take k) V1
            have h2 := List.length_take_le k (b.map If.mod)
            have h3 : (b.map If.mod).length = b.length := List.length_map ..
            have h4 := HV1len.out
            skip
            omega
          have hnext : riseF (riseL V1 ((b.map If.mod).take k)) x.mod = riseL V1 ((b.map If.mod).take (k + 1)) := by
            rw [riseL_succ (by rw [List.length_map]; exact hlt), List.getElem_map, hx]
          have HL := Lib.hid hlen
          have HN := Lib.hid hnext
          have HC := Lib.hid (rise_c w.heap.size _ x.mod _ wkb HVV.out (by omega) HL.out)
          clear hlen hnext hx
          go_wp2_with (go_at_call 22; refine HC.out.mono ?_; rintro e wq ⟨vq, rfl, hs, hb⟩)
          exact ⟨⟨k + 1, vq, rfl, by go_num, by omega, HBK.out.trans (hb.mono HBK.out.size), by rw [← HN.out]; exact hs⟩, by simp [intOf]; omega⟩
        · obtain rfl : k = b.length := by omega
          have hltI : ¬ (b.length : Int) < (b.length : Int) := by omega
          have htk : (b.map If.mod).take b.length = b.map If.mod := List.take_of_length_le (by rw [List.length_map]; exact Nat.le_refl _)
          have HSb := Lib.hid (show StrV wkb w.heap.size vvb (riseL V1 (b.map If.mod)) by have := HVV.out; rw [htk] at this; exact this)
          have HBb := Lib.hid HBK.out
          clear HVV HBK htk
          obtain ⟨U, hU⟩ : ∃ U, riseL V1 (b.map If.mod) = U := ⟨_, rfl⟩
          have hUU : unionN (a.map If.mod) (b.map If.mod) = U := by rw [← hU, ← HV1.out, riseL_union]
          have hUl : U.length ≤ 2000 := by
            have := unionN_len (a.map If.mod) (b.map If.mod)
            rw [hUU, List.length_map, List.length_map] at this; omega
          rw [hU] at HSb
          have HUU := Lib.hid hUU
          have BB := Lib.hid (HBa.out.trans (HBb.out.mono HBa.out.size))
          have huv : ∃ p cap bu ou, vvb = .slice p U.length cap ∧ (0 < U.length → p = some ⟨bu, ou, none⟩ ∧ bu < wkb.heap.size) ∧ ∀ i (h : i < U.length), wkb.cell? ⟨bu, ou + i, none⟩ = some (.string U[i]) := by
            rcases HSb.out with ⟨e1, e2⟩ | ⟨bu, ou, cap, e1, e2, e3, e4, e5, e6⟩
            · exact ⟨none, 0, 0, 0, by rw [e1, e2]; rfl, fun h => by rw [e2] at h; simp at h, fun i h => by rw [e2] at h; simp at h⟩
            · exact ⟨_, cap, bu, ou, e1, fun _ => ⟨rfl, e5⟩, e6⟩
          obtain ⟨pU, capU, bu, ou, rfl, hub, hcU⟩ := huv
          have HUB := Lib.hid hub
          have HCUU := Lib.hid hcU
          clear hU hUU HSa HBa HBb HV1 HV1len HSb hub hcU
          go_wp2_with fail
          go_loopw [8, 9] (fun v i wk => ∃ (k : Nat) (vv : Value), vv = v ∧ i = .int .i64 k ∧ k ≤ U.length ∧ Below wkb.heap.size wkb wk ∧ wk.ownsRow wkb.heap.size 48 4 vv ((U.take k).flatMap (modF a b)).length (flatC ((U.take k).flatMap (modF a b)))) (fun _ i _ => U.length - (intOf i).toNat)
          case atStart => exact ⟨0, _, rfl, rfl, Nat.zero_le _, Below.refl _ _, World.ownsRow_nil _ _ _ _⟩
          case round =>
            rename World => w3
            obtain ⟨k, vv3, rfl, rfl, hk, hb, hown⟩ := hrel
            have HB3 := Lib.hid hb
            have HW3 := Lib.hid hown
            clear hb
            by_cases hlt : k < U.length
            rotate_left
            · obtain rfl : k = U.length := by omega
              have hltI : ¬ (U.length : Int) < (U.length : Int) := by omega
              have e : U.take U.length = U := List.take_of_length_le (Nat.le_refl _)
              have eR : (U.take U.length).flatMap (modF a b) = R := by rw [e, ← HUU.out]; exact HR.out
              rw [eR] at hown
              have HO := Lib.hid hown
              clear hown e eR HW3
              go_wp2_with fail
              go_ret
              exact ⟨vv3, rfl, ownsRow_base HO.out BB.out.size, BB.out.trans (HB3.out.mono BB.out.size)⟩
            have hltI : (k : Int) < (U.length : Int) := by omega
            obtain ⟨m, hm⟩ : ∃ m, U[k] = m := ⟨_, rfl⟩
            obtain ⟨rfl, hbu⟩ := HUB.out (by omega)
            have cu0 := HCUU.out k hlt
            rw [hm] at cu0
            have HCU := Lib.hid cu0
            obtain ⟨L, hL⟩ : ∃ L, (U.take k).flatMap (modF a b) = L := ⟨_, rfl⟩
            have hnext : (U.take (k + 1)).flatMap (modF a b) = L ++ modF a b m := by
              rw [List.take_succ_eq_append_getElem hlt, List.flatMap_append, hL, hm]; simp
            have HNX3 := Lib.hid hnext
            have hLl : L.length ≤ 2000 * 800 := by
              have h := flatMap_le (f := modF a b) (K := 800) (fun m => by
                have e1 := first_few HFA.out m
                have e2 := first_few HFB.out m
                have e3 := rowsF_len m ((firstIface a m).getD zIf).types ((firstIface b m).getD zIf).types true
                have e4 := rowsF_len m ((firstIface a m).getD zIf).vals ((firstIface b m).getD zIf).vals false
                rw [modF, List.length_append]; omega) (U.take k)
              have h2 := List.length_take_le k U
              have : (U.take k).length * 800 ≤ 2000 * 800 := Nat.mul_le_mul_right _ (by omega)
              rw [← hL]; omega
            have HLL := Lib.hid hLl
            rw [hL] at hown
            have HW3' := Lib.hid hown
            clear hown hL hm hnext hLl HW3 cu0
            go_wp2_with fail
            go_loopw [8, 10] (fun v s wk => ∃ (q : Nat) (vv : Value), vv = v ∧ s = .int .i64 q ∧ q ≤ 2 ∧ Below wkb.heap.size wkb wk ∧ wk.ownsRow wkb.heap.size 48 4 vv (L ++ partM a b m q).length (flatC (L ++ partM a b m q))) (fun _ s _ => 2 - (intOf s).toNat)
            case atStart => exact ⟨0, _, rfl, rfl, by omega, HB3.out, by simpa [partM] using HW3'.out⟩
            case round =>
              rename World => w4
              obtain ⟨q, vv4, rfl, rfl, hq, hb, hown⟩ := hrel
              have HB4 := Lib.hid hb
              have HW4 := Lib.hid hown
              clear hb hown
              by_cases hq2 : q < 2
              rotate_left
              · obtain rfl : q = 2 := by omega
                have hqI : ¬ ((2 : Nat) : Int) < 2 := by omega
                have hW := HW4.out
                rw [partM_two, ← HNX3.out] at hW
                have HW5 := Lib.hid hW
                clear hW HW4
                go_wp2_with fail
                exact ⟨⟨k + 1, vv4, rfl, by go_num, by omega, HB4.out, HW5.out⟩, by simp [intOf]; omega⟩
              have hqI : (q : Int) < 2 := by omega
              obtain ⟨o, ho⟩ : ∃ o, ((q : Int) == 0) = o := ⟨_, rfl⟩
              obtain ⟨xs, hxs⟩ : ∃ xs, selF ((firstIface a m).getD zIf) o = xs := ⟨_, rfl⟩
              obtain ⟨ys, hys⟩ : ∃ ys, selF ((firstIface b m).getD zIf) o = ys := ⟨_, rfl⟩
              have AB4 := Lib.hid (BB.out.trans (HB4.out.mono BB.out.size))
              have hB4 : B ≤ w4.heap.size := Nat.le_trans hB AB4.out.size
              have HRA := refRow_c A c B a m o w4 (H1.out.under (AB4.out.mono hB)) hB4 hl
              have HRB := refRow_c A' c' B b m o w4 (H2.out.under (AB4.out.mono hB)) hB4 hl'
              rw [hxs] at HRA
              rw [hys] at HRB
              have HRA := Lib.hid HRA
              have HRB := Lib.hid HRB
              have HXL := Lib.hid (show xs.length ≤ 200 by rw [← hxs]; exact sel_few HFA.out m o)
              have HYL := Lib.hid (show ys.length ≤ 200 by rw [← hys]; exact sel_few HFB.out m o)
              have HPX := Lib.hid (show ∀ x ∈ xs, PlainB x.ty = true from fun x hx => sel_plain HMA.out m o (by rw [hxs]; exact hx))
              have HPY := Lib.hid (show ∀ x ∈ ys, PlainB x.ty = true from fun x hx => sel_plain HMB.out m o (by rw [hys]; exact hx))
              obtain ⟨L4, hL4⟩ : ∃ L4, L ++ partM a b m q = L4 := ⟨_, rfl⟩
              have HLL4 := Lib.hid (show L4.length ≤ 1601000 by
                have h1 := HLL.out
                have h2 := partM_len HFA.out HFB.out m q
                rw [← hL4, List.length_append]
                have : 400 * q ≤ 800 := by omega
                omega)
              have hW := HW4.out
              rw [hL4] at hW
              have HW4 := Lib.hid hW
              have HL4 := Lib.hid hL4
              have HO := Lib.hid ho
              have HXS := Lib.hid hxs
              have HYS := Lib.hid hys
              have cm := (HB4.out.cell (p := ⟨bu, _, none⟩) hbu).trans HCU.out
              have hbu4 := Nat.lt_of_lt_of_le hbu HB4.out.size
              clear hxs hys hL4 hW
              go_upto_region 18 with (go_at_call 23; refine HRA.out.mono ?_; rintro e wr ⟨A2, c2, rfl, hx2, hwr⟩; obtain rfl := hwr.symm; have HX := Lib.hid hx2; clear hx2)
              go_upto_region 19 with (go_at_call 23; refine HRB.out.mono ?_; rintro e wr ⟨A3, c3, rfl, hy2, hwr⟩; obtain rfl := hwr.symm; have HY := Lib.hid hy2; clear hy2)
              clear HRA HRB cm
              have HX7 := Lib.hid (show ∀ w7, Below w.heap.size w w7 → NmsAt w7 B A2 xs from fun w7 hb => HX.out.keep fun p hp => (hb.cell (by omega)).trans (AB4.out.cell (by omega)).symm)
              have HY7 := Lib.hid (show ∀ w7, Below w.heap.size w w7 → NmsAt w7 B A3 ys from fun w7 hb => HY.out.keep fun p hp => (hb.cell (by omega)).trans (AB4.out.cell (by omega)).symm)
              have hbasew : w4.heap.size ≤ w4.heap.size := Nat.le_refl _
              go_wp2_with fail
              go_loopw [13, 14] (fun v i wk => ∃ (k : Nat) (vv : Value), vv = v ∧ i = .int .i64 k ∧ k ≤ xs.length ∧ Below w4.heap.size w4 wk ∧ StrV wk w4.heap.size vv (riseL [] ((xs.map Nm.name).take k))) (fun _ i _ => xs.length - (intOf i).toNat)
              case atStart => exact ⟨0, _, rfl, rfl, Nat.zero_le _, Below.refl _ _, .inl ⟨rfl, rfl⟩⟩
              case round =>
                rename World => wke
                obtain ⟨k, vve, rfl, rfl, hk, hb, hv⟩ := hrel
                have HBK := Lib.hid hb
                have HVV := Lib.hid hv
                have hsze := hb.size
                clear hb hv
                by_cases hlt : k < xs.length
                · have hltI : (k : Int) < (xs.length : Int) := by omega
                  obtain ⟨x, hx⟩ : ∃ x, xs[k] = x := ⟨_, rfl⟩
                  obtain ⟨-, bz, oz, na, nc, sa, sc, rfl, hbz, -, c0, -⟩ := (HX.out.under ((HBK.out.mono hB4))).elem hlt hx
                  have hbw : bz < wke.heap.size := by omega
                  have hkk : k ≤ 1000 := by
                    have h5 := HXL.out
                    omega
                  have hlen : (riseL [] ((xs.map Nm.name).take k)).length ≤ 100000 := by
                    have h1 := riseL_len ((xs.map Nm.name).take k) []
                    have h2 := List.length_take_le k (xs.map Nm.name)
                    have h3 : (xs.map Nm.name).length = xs.length := List.length_map ..
                    have h4 := HZlen.out
                    have h5 := HXL.out
                    omega
                  have hnext : riseF (riseL [] ((xs.map Nm.name).take k)) x.name = riseL [] ((xs.map Nm.name).take (k + 1)) := by
                    rw [riseL_succ (by rw [List.length_map]; exact hlt), List.getElem_map, hx]
                  have HL := Lib.hid hlen
                  have HN := Lib.hid hnext
                  have HC := Lib.hid (rise_c w4.heap.size _ x.name _ wke HVV.out (by omega) HL.out)
                  clear hlen hnext hx
                  go_wp2_with (go_at_call 22; refine HC.out.mono ?_; rintro e wq ⟨vq, rfl, hs, hb⟩)
                  exact ⟨⟨k + 1, vq, rfl, by go_num, by omega, HBK.out.trans (hb.mono HBK.out.size), by rw [← HN.out]; exact hs⟩, by simp [intOf]; omega⟩
                · obtain rfl : k = xs.length := by omega
                  have hltI : ¬ (xs.length : Int) < (xs.length : Int) := by omega
                  have htk : (xs.map Nm.name).take xs.length = xs.map Nm.name := List.take_of_length_le (by rw [List.length_map]; exact Nat.le_refl _)
                  have HSe := Lib.hid (show StrV wke w4.heap.size vve (riseL [] (xs.map Nm.name)) by have := HVV.out; rw [htk] at this; exact this)
                  have HBe := Lib.hid HBK.out
                  clear HVV HBK htk
                  obtain ⟨V2, hV2⟩ : ∃ V, riseL [] (xs.map Nm.name) = V := ⟨_, rfl⟩
                  rw [hV2] at HSe
                  have HV2 := Lib.hid hV2
                  have HV2len := Lib.hid (show V2.length ≤ 1000 by rw [← hV2]; have h1 := riseL_len (xs.map Nm.name) []; have h2 := HXL.out; rw [List.length_map] at h1; simp at h1; omega)
                  clear hV2
                  go_wp2_with fail
                  go_loopw [13, 15] (fun v i wk => ∃ (k : Nat) (vv : Value), vv = v ∧ i = .int .i64 k ∧ k ≤ ys.length ∧ Below wke.heap.size wke wk ∧ StrV wk w4.heap.size vv (riseL V2 ((ys.map Nm.name).take k))) (fun _ i _ => ys.length - (intOf i).toNat)
                  case atStart => exact ⟨0, _, rfl, rfl, Nat.zero_le _, Below.refl _ _, HSe.out⟩
                  case round =>
                    rename World => wkf
                    obtain ⟨k, vvf, rfl, rfl, hk, hb, hv⟩ := hrel
                    have HBK := Lib.hid hb
                    have HVV := Lib.hid hv
                    have hszf := hb.size
                    clear hb hv
                    by_cases hlt : k < ys.length
                    · have hltI : (k : Int) < (ys.length : Int) := by omega
                      obtain ⟨x, hx⟩ : ∃ x, ys[k] = x := ⟨_, rfl⟩
                      obtain ⟨-, bz, oz, na, nc, sa, sc, rfl, hbz, -, c0, -⟩ := (HY.out.under (((HBe.out.trans (HBK.out.mono HBe.out.size)).mono hB4))).elem hlt hx
                      have hbw : bz < wkf.heap.size := by omega
                      have hkk : k ≤ 1000 := by
                        have h5 := HYL.out
                        omega
                      have hlen : (riseL V2 ((ys.map Nm.name).take k)).length ≤ 100000 := by
                        have h1 := riseL_len ((ys.map Nm.name).take k) V2
                        have h2 := List.length_take_le k (ys.map Nm.name)
                        have h3 : (ys.map Nm.name).length = ys.length := List.length_map ..
                        have h4 := HV2len.out
                        have h5 := HYL.out
                        omega
                      have hnext : riseF (riseL V2 ((ys.map Nm.name).take k)) x.name = riseL V2 ((ys.map Nm.name).take (k + 1)) := by
                        rw [riseL_succ (by rw [List.length_map]; exact hlt), List.getElem_map, hx]
                      have HL := Lib.hid hlen
                      have HN := Lib.hid hnext
                      have HC := Lib.hid (rise_c w4.heap.size _ x.name _ wkf HVV.out (by omega) HL.out)
                      clear hlen hnext hx
                      go_wp2_with (go_at_call 22; refine HC.out.mono ?_; rintro e wq ⟨vq, rfl, hs, hb⟩)
                      exact ⟨⟨k + 1, vq, rfl, by go_num, by omega, HBK.out.trans (hb.mono HBK.out.size), by rw [← HN.out]; exact hs⟩, by simp [intOf]; omega⟩
                    · obtain rfl : k = ys.length := by omega
                      have hltI : ¬ (ys.length : Int) < (ys.length : Int) := by omega
                      have htk : (ys.map Nm.name).take ys.length = ys.map Nm.name := List.take_of_length_le (by rw [List.length_map]; exact Nat.le_refl _)
                      have HSf := Lib.hid (show StrV wkf w4.heap.size vvf (riseL V2 (ys.map Nm.name)) by have := HVV.out; rw [htk] at this; exact this)
                      have HBf := Lib.hid HBK.out
                      clear HVV HBK htk
                      obtain ⟨N, hN⟩ : ∃ N, riseL V2 (ys.map Nm.name) = N := ⟨_, rfl⟩
                      have hNN : unionN (xs.map Nm.name) (ys.map Nm.name) = N := by rw [← hN, ← HV2.out, riseL_union]
                      have hNl : N.length ≤ 400 := by
                        have := unionN_len (xs.map Nm.name) (ys.map Nm.name)
                        have h1 := HXL.out
                        have h2 := HYL.out
                        rw [hNN, List.length_map, List.length_map] at this; omega
                      rw [hN] at HSf
                      have HN := Lib.hid hNN
                      have HB6 := Lib.hid (HB4.out.trans ((HBe.out.trans (HBf.out.mono HBe.out.size)).mono HB4.out.size))
                      have HW6 := Lib.hid (owns_under' (owns_under' HW4.out HBe.out) HBf.out)
                      have hz6 : w4.heap.size ≤ wkf.heap.size := Nat.le_trans HBe.out.size HBf.out.size
                      have hnv : ∃ p cap nb no, vvf = .slice p N.length cap ∧ (0 < N.length → p = some ⟨nb, no, none⟩ ∧ w4.heap.size ≤ nb ∧ nb < wkf.heap.size) ∧ ∀ i (h : i < N.length), wkf.cell? ⟨nb, no + i, none⟩ = some (.string N[i]) := by
                        rcases HSf.out with ⟨e1, e2⟩ | ⟨nb, no, cap, e1, e2, e0, e3, e4, e5⟩
                        · exact ⟨none, 0, 0, 0, by rw [e1, e2]; rfl, fun h => by rw [e2] at h; simp at h, fun i h => by rw [e2] at h; simp at h⟩
                        · exact ⟨_, cap, nb, no, e1, fun _ => ⟨rfl, e3, e4⟩, e5⟩
                      obtain ⟨pN, capN, nb, no, rfl, hnb, hcN⟩ := hnv
                      have HNB := Lib.hid hnb
                      have HCN := Lib.hid hcN
                      have HP6 := Lib.hid (show ∀ g, vv4.ownBlock = some g → g < w4.heap.size ∨ wkf.heap.size ≤ g from fun g hg => .inl (owns_lt' HW4.out hg).2)
                      clear hN hNN hnb hcN HSe HSf HV2 HV2len HBe HBf HW4 HB4
                      go_wp2_with fail
                      go_loopw [8, 16] (fun v i wk => ∃ (j : Nat) (vv : Value), vv = v ∧ i = .int .i64 j ∧ j ≤ N.length ∧ Below wkb.heap.size wkb wk ∧ wkf.heap.size ≤ wk.heap.size ∧ wk.ownsRow wkb.heap.size 48 4 vv (L4 ++ (N.take j).flatMap (oneF m xs ys o)).length (flatC (L4 ++ (N.take j).flatMap (oneF m xs ys o))) ∧ (∀ i (h : i < N.length), wk.cell? ⟨nb, no + i, none⟩ = some (.string N[i])) ∧ ∀ g, vv.ownBlock = some g → g < w4.heap.size ∨ wkf.heap.size ≤ g) (fun _ i _ => N.length - (intOf i).toNat)
                      case atStart => exact ⟨0, _, rfl, rfl, Nat.zero_le _, HB6.out, Nat.le_refl _, by simpa using HW6.out, HCN.out, HP6.out⟩
                      case round =>
                        rename World => w7
                        obtain ⟨j, vv, rfl, rfl, hj, hb, hz7, hown, hcells, hap⟩ := hrel
                        have HB7 := Lib.hid hb
                        have HW7 := Lib.hid hown
                        have HC7 := Lib.hid hcells
                        have HP7 := Lib.hid hap
                        clear hb hown hcells hap
                        by_cases hjt : j < N.length
                        rotate_left
                        · obtain rfl : j = N.length := by omega
                          have hjI : ¬ (N.length : Int) < (N.length : Int) := by omega
                          have e : N.take N.length = N := List.take_of_length_le (Nat.le_refl _)
                          have hend : L4 ++ (N.take N.length).flatMap (oneF m xs ys o) = L ++ partM a b m (q + 1) := by rw [e, partM, ← List.append_assoc, HL4.out, ← HN.out, HO.out, HXS.out, HYS.out]; rfl
                          have HW8 := HW7.out
                          rw [hend] at HW8
                          have HW9 := Lib.hid HW8
                          clear hend e HW8 HW7
                          go_wp2_with fail
                          exact ⟨⟨q + 1, vv, rfl, by go_num, by omega, HB7.out, HW9.out⟩, by simp [intOf]; omega⟩
                        have hjI : (j : Int) < (N.length : Int) := by omega
                        obtain ⟨rfl, hnb1, hnb2⟩ := HNB.out (by omega)
                        obtain ⟨n, hn⟩ : ∃ n, N[j] = n := ⟨_, rfl⟩
                        have cn := HC7.out j hjt
                        rw [hn] at cn
                        have hnb3 : nb < w7.heap.size := by omega
                        have hnext : (N.take (j + 1)).flatMap (oneF m xs ys o) = (N.take j).flatMap (oneF m xs ys o) ++ oneF m xs ys o n := by
                          rw [List.take_succ_eq_append_getElem hjt, List.flatMap_append, hn]; simp
                        obtain ⟨kd, hkd⟩ : ∃ kd, kindF xs ys n o = kd := ⟨_, rfl⟩
                        have HAB := Lib.hid (BB.out.trans (HB7.out.mono BB.out.size))
                        have hB7 : B ≤ w7.heap.size := Nat.le_trans hB HAB.out.size
                        have HB47 : Below w4.heap.size w4 w4 := Below.refl _ _
                        have HONE := Lib.hid (one_c A2 A3 c2 c3 B xs ys n o w7 (HX7.out w7 HAB.out) (HY7.out w7 HAB.out) hB7 (by have := HXL.out; omega) (by have := HYL.out; omega) HPX.out HPY.out)
                        rw [hkd] at HONE
                        have hcases := kindO_cases (firstNamed xs n) (firstNamed ys n) o
                        rw [show kindO (firstNamed xs n) (firstNamed ys n) o = kd from hkd] at hcases
                        have hone : oneF m xs ys o n = if 0 < kd then [⟨kd, m, n, o⟩] else [] := by rw [oneF, hkd]
                        have HN2 := Lib.hid hnext
                        have HON := Lib.hid hone
                        clear hn hnext hkd hone HB47
                        go_upto_region 32 with (go_at_call 24; refine HONE.out.mono ?_; rintro e w8 ⟨rfl, hb8⟩; have HB8 := Lib.hid (HB7.out.trans (hb8.mono HB7.out.size)); have HW8 := Lib.hid (owns_under' HW7.out hb8); have cn8 := (hb8.cell (p := ⟨nb, _, none⟩) hnb3).trans cn; have HC8 := Lib.hid (fun i hi => (hb8.cell (p := ⟨nb, _, none⟩) hnb3).trans (HC7.out i hi)); have hz8 := Nat.le_trans hz7 hb8.size; clear hb8 cn)
                        clear HONE
                        rcases hcases with rfl | hpos
                        · have hnil : oneF m xs ys o n = [] := by rw [HON.out]; rfl
                          have HNIL := Lib.hid hnil
                          clear hnil
                          go_wp2_with fail
                          exact ⟨⟨j + 1, vv, rfl, by go_num, by omega, HB8.out, hz8, by rw [HN2.out, HNIL.out, List.append_nil]; exact HW8.out, HC8.out, HP7.out⟩, by simp [intOf]; omega⟩
                        have hnil : oneF m xs ys o n = [⟨kd, m, n, o⟩] := by rw [HON.out, if_pos hpos]
                        have HNIL := Lib.hid hnil
                        have hkne : (kd != 0) = true := by simp; omega
                        clear hnil hpos
                        go_upto_region 33 with fail
                        have hnb8 : nb < w8.heap.size := by omega
                        have cu := (HB8.out.cell (p := ⟨bu, _, none⟩) hbu).trans HCU.out
                        obtain ⟨LL, hLL⟩ : ∃ LL, L4 ++ (N.take j).flatMap (oneF m xs ys o) = LL := ⟨_, rfl⟩
                        have hWL := HW8.out
                        rw [hLL] at hWL
                        have HWL := Lib.hid hWL
                        have hlx : LL.length ≤ 2000000 := by
                          have h1 := HLL4.out
                          have h2 := flatMap_le (f := oneF m xs ys o) (K := 1) (fun x => by unfold oneF; split <;> simp) (N.take j)
                          have h3 := List.length_take_le j N
                          rw [← hLL, List.length_append]; omega
                        have HLX := Lib.hid hlx
                        have HLLE := Lib.hid hLL
                        clear hWL hlx hLL HW8 HW7
                        refine wp_region_until [(13, fun w' => w'.cell? ⟨bu, ou + k, none⟩ = some (.string m) ∧ w'.cell? ⟨nb, no + j, none⟩ = some (.string n))] (by kernel_rfl) (Until.cons (fun _ => ⟨cu, cn8⟩) Until.nil) (fun hU => ?_)
                        refine AnyU.take (i := 0) (v := ?_) rfl (by kernel_rfl) (by kernel_rfl) (by kernel_rfl) (fun _ _ _ h => h) (by kernel_rfl) (by assumption) (by rfl) ?_ (fun hV => ?_)
                        rotate_left 1
                        · (intro wq; go_simp; try with_reducible rfl)
                        clear hU
                        have hU := hV
                        clear hV
                        try simp only [Act.put, List.getElem_toArray, List.getElem_cons_zero, List.getElem_cons_succ, List.setIfInBounds_toArray, List.set_cons_zero, List.set_cons_succ]
                        refine AnyU.take (i := 1) (v := ?_) rfl (by kernel_rfl) (by kernel_rfl) (by kernel_rfl) (fun _ _ _ h => h) (by kernel_rfl) (by assumption) (by rfl) ?_ (fun hV => ?_)
                        rotate_left 1
                        · (intro wq; go_simp; try with_reducible rfl)
                        clear hU
                        have hU := hV
                        clear hV
                        try simp only [Act.put, List.getElem_toArray, List.getElem_cons_zero, List.getElem_cons_succ, List.setIfInBounds_toArray, List.set_cons_zero, List.set_cons_succ]
                        refine AnyU.take (i := 2) (v := ?_) rfl (by kernel_rfl) (by kernel_rfl) (by kernel_rfl) (fun _ _ _ h => h) (by kernel_rfl) (by assumption) (by rfl) ?_ (fun hV => ?_)
                        rotate_left 1
                        · (intro wq; go_simp; try with_reducible rfl)
                        clear hU
                        have hU := hV
                        clear hV
                        try simp only [Act.put, List.getElem_toArray, List.getElem_cons_zero, List.getElem_cons_succ, List.setIfInBounds_toArray, List.set_cons_zero, List.set_cons_succ]
                        refine AnyU.take (i := 3) (v := ?_) rfl (by kernel_rfl) (by kernel_rfl) (by kernel_rfl) (fun _ _ _ h => h) (by kernel_rfl) (by assumption) (by rfl) ?_ (fun hV => ?_)
                        rotate_left 1
                        · (intro wq; go_simp; try with_reducible rfl)
                        clear hU
                        have hU := hV
                        clear hV
                        try simp only [Act.put, List.getElem_toArray, List.getElem_cons_zero, List.getElem_cons_succ, List.setIfInBounds_toArray, List.set_cons_zero, List.set_cons_succ]
                        refine AnyU.take (i := 4) (v := ?_) rfl (by kernel_rfl) (by kernel_rfl) (by kernel_rfl) (fun _ _ _ h => h) (by kernel_rfl) (by assumption) (by rfl) ?_ (fun hV => ?_)
                        rotate_left 1
                        · (intro wq; go_simp; try with_reducible rfl)
                        clear hU
                        have hU := hV
                        clear hV
                        try simp only [Act.put, List.getElem_toArray, List.getElem_cons_zero, List.getElem_cons_succ, List.setIfInBounds_toArray, List.set_cons_zero, List.set_cons_succ]
                        refine AnyU.loadc (i := 5) (d := 13) [12, 13] (Si := fun w' => w'.cell? ⟨bu, ou + k, none⟩ = some (.string m) ∧ w'.cell? ⟨nb, no + j, none⟩ = some (.string n)) (v := ?_) rfl (by kernel_rfl) (by kernel_rfl) (by kernel_rfl) (fun _ _ _ h => h) (by kernel_rfl) (by assumption) (by kernel_rfl) rfl (by simp) (by rfl) ?_ (fun hV => ?_)
                        rotate_left 1
                        · (intro wq hq; obtain ⟨u, -⟩ := hq; go_simp; try with_reducible rfl)
                        clear hU
                        have hU := hV
                        clear hV
                        try simp only [Act.put, List.getElem_toArray, List.getElem_cons_zero, List.getElem_cons_succ, List.setIfInBounds_toArray, List.set_cons_zero, List.set_cons_succ]
                        refine AnyU.take (i := 6) (v := ?_) rfl (by kernel_rfl) (by kernel_rfl) (by kernel_rfl) (fun _ _ _ h => h) (by kernel_rfl) (by assumption) (by rfl) ?_ (fun hV => ?_)
                        rotate_left 1
                        · (intro wq; go_simp; try with_reducible rfl)
                        clear hU
                        have hU := hV
                        clear hV
                        try simp only [Act.put, List.getElem_toArray, List.getElem_cons_zero, List.getElem_cons_succ, List.setIfInBounds_toArray, List.set_cons_zero, List.set_cons_succ]
                        refine AnyU.take (i := 7) (v := ?_) rfl (by kernel_rfl) (by kernel_rfl) (by kernel_rfl) (fun _ _ _ h => h) (by kernel_rfl) (by assumption) (by rfl) ?_ (fun hV => ?_)
                        rotate_left 1
                        · (intro wq; go_simp; try with_reducible rfl)
                        clear hU
                        have hU := hV
                        clear hV
                        try simp only [Act.put, List.getElem_toArray, List.getElem_cons_zero, List.getElem_cons_succ, List.setIfInBounds_toArray, List.set_cons_zero, List.set_cons_succ]
                        refine AnyU.take (i := 8) (v := ?_) rfl (by kernel_rfl) (by kernel_rfl) (by kernel_rfl) (fun _ _ _ h => h) (by kernel_rfl) (by assumption) (by rfl) ?_ (fun hV => ?_)
                        rotate_left 1
                        · (intro wq; go_simp; try with_reducible rfl)
                        clear hU
                        have hU := hV
                        clear hV
                        try simp only [Act.put, List.getElem_toArray, List.getElem_cons_zero, List.getElem_cons_succ, List.setIfInBounds_toArray, List.set_cons_zero, List.set_cons_succ]
                        refine AnyU.loadc (i := 9) (d := 13) [12, 13] (Si := fun w' => w'.cell? ⟨bu, ou + k, none⟩ = some (.string m) ∧ w'.cell? ⟨nb, no + j, none⟩ = some (.string n)) (v := ?_) rfl (by kernel_rfl) (by kernel_rfl) (by kernel_rfl) (fun _ _ _ h => h) (by kernel_rfl) (by assumption) (by kernel_rfl) rfl (by simp) (by rfl) ?_ (fun hV => ?_)
                        rotate_left 1
                        · (intro wq hq; obtain ⟨-, u⟩ := hq; go_simp; try with_reducible rfl)
                        clear hU
                        have hU := hV
                        clear hV
                        try simp only [Act.put, List.getElem_toArray, List.getElem_cons_zero, List.getElem_cons_succ, List.setIfInBounds_toArray, List.set_cons_zero, List.set_cons_succ]
                        refine AnyU.take (i := 10) (v := ?_) rfl (by kernel_rfl) (by kernel_rfl) (by kernel_rfl) (fun _ _ _ h => h) (by kernel_rfl) (by assumption) (by rfl) ?_ (fun hV => ?_)
                        rotate_left 1
                        · (intro wq; go_simp; try with_reducible rfl)
                        clear hU
                        have hU := hV
                        clear hV
                        try simp only [Act.put, List.getElem_toArray, List.getElem_cons_zero, List.getElem_cons_succ, List.setIfInBounds_toArray, List.set_cons_zero, List.set_cons_succ]
                        refine AnyU.take (i := 11) (v := ?_) rfl (by kernel_rfl) (by kernel_rfl) (by kernel_rfl) (fun _ _ _ h => h) (by kernel_rfl) (by assumption) (by rfl) ?_ (fun hV => ?_)
                        rotate_left 1
                        · (intro wq; go_simp; try with_reducible rfl)
                        clear hU
                        have hU := hV
                        clear hV
                        try simp only [Act.put, List.getElem_toArray, List.getElem_cons_zero, List.getElem_cons_succ, List.setIfInBounds_toArray, List.set_cons_zero, List.set_cons_succ]
                        refine AnyU.take (i := 12) (v := ?_) rfl (by kernel_rfl) (by kernel_rfl) (by kernel_rfl) (fun _ _ _ h => h) (by kernel_rfl) (by assumption) (by rfl) ?_ (fun hV => ?_)
                        rotate_left 1
                        · (intro wq; go_simp; try with_reducible rfl)
                        clear hU
                        have hU := hV
                        clear hV
                        try simp only [Act.put, List.getElem_toArray, List.getElem_cons_zero, List.getElem_cons_succ, List.setIfInBounds_toArray, List.set_cons_zero, List.set_cons_succ]
                        refine AnyU.ready1 (i := 13) (by kernel_rfl) (AnyU.one rfl fun K hK => ?_)
                        go_simp
                        obtain ⟨hX, hbX, hsX⟩ := laidX w8 #[.int .i64 kd, .string m, .string n, .bool o] 48
                        generalize hX3 : ((w8.alloc (.cells #[.int .i64 kd, .string m, .string n, .bool o] 48)).drew) = X3 at hX hbX hsX ⊢
                        clear hX3
                        refine hK.out _ _ (Until.off (by kernel_rfl)) (fun hV => ?_)
                        clear hK K
                        clear hU
                        have hU := hV
                        clear hV
                        try simp only [Act.put, List.getElem_toArray, List.getElem_cons_zero, List.getElem_cons_succ, List.setIfInBounds_toArray, List.set_cons_zero, List.set_cons_succ]
                        refine AnyU.ready1 (i := 14) (by kernel_rfl) (AnyU.one rfl fun K hK => ?_)
                        have hone4 : ∀ u ∈ (#[.int .i64 kd, .string m, .string n, .bool o] : Array Value).toList, u.oneCell' = true := by simp [Value.oneCell']
                        have hml := HLX.out
                        refine step_append_lies X3 (by rfl) _ _ _ (by rfl) wkb.heap.size 48 i0 _ 4 48 Try.underlying25 hi hz0 hz1 hz2 rfl (by decide) vv LL.length (flatC LL) (by rfl) (owns_under' HWL.out hX) ⟨w8.heap.size, 0, none⟩ 1 1 (#[.int .i64 kd, .string m, .string n, .bool o] : Array Value).toList (by rfl) (by rfl) (World.news_of_block (cs := #[.int .i64 kd, .string m, .string n, .bool o]) (t := 48) (fr := (0, 0)) hbX) hone4 (by decide) (by unfold maxLen; omega) (by omega) (by have := HB8.out.size; omega) _ rfl ?_
                        intro g cS x4 hown hg hat hlt4
                        refine hK.out _ _ (Until.off (by kernel_rfl)) (fun hV => ?_)
                        clear hK K
                        clear hU
                        have hU := hV
                        clear hV
                        try simp only [Act.put, List.getElem_toArray, List.getElem_cons_zero, List.getElem_cons_succ, List.setIfInBounds_toArray, List.set_cons_zero, List.set_cons_succ]
                        refine AnyU.ready1 (i := 15) (by kernel_rfl) (AnyU.one rfl fun K hK => ?_)
                        go_simp
                        refine hK.out _ _ (Until.off (by kernel_rfl)) (fun hV => ?_)
                        clear hK K
                        clear hU
                        have hU := hV
                        clear hV
                        try simp only [Act.put, List.getElem_toArray, List.getElem_cons_zero, List.getElem_cons_succ, List.setIfInBounds_toArray, List.set_cons_zero, List.set_cons_succ]
                        refine AnyU.done (by kernel_rfl) ?_
                        clear hU
                        have hz9 := Nat.le_trans (Nat.le_trans hz8 hX.size) hg.size
                        have HB9 := Lib.hid ((HB8.out.trans (hX.mono HB8.out.size)).grown hg (by have := HB8.out.size; omega) (fun q hq => (owns_lt' HWL.out hq).1))
                        have hC9 : ∀ i (h : i < N.length), x4.cell? ⟨nb, no + i, none⟩ = some (.string N[i]) := fun i hi => by
                          rw [hg.cell_far ⟨nb, no + i, none⟩ (by show nb < X3.heap.size; omega) (fun e => by have := HP7.out nb e.symm; omega), hX.cell (p := ⟨nb, _, none⟩) hnb8]
                          exact HC8.out i hi
                        have hP9 : ∀ g', (Value.slice (some ⟨g, 0, none⟩) (LL.length + 1) cS).ownBlock = some g' → g' < w4.heap.size ∨ wkf.heap.size ≤ g' := fun g' e => by
                          have e' : g = g' := by simpa [Value.ownBlock] using e
                          subst e'
                          rcases hat with e | e
                          · exact HP7.out g e
                          · right; omega
                        have hW9 : x4.ownsRow wkb.heap.size 48 4 (.slice (some ⟨g, 0, none⟩) (LL.length + 1) cS) (L4 ++ (N.take (j + 1)).flatMap (oneF m xs ys o)).length (flatC (L4 ++ (N.take (j + 1)).flatMap (oneF m xs ys o))) := by
                          rw [HN2.out, HNIL.out, ← List.append_assoc, HLLE.out, flatC_push, List.length_append]
                          exact hown
                        have HC9 := Lib.hid hC9
                        have HP9 := Lib.hid hP9
                        have HW9 := Lib.hid hW9
                        clear hC9 hP9 hW9 hown hg hat hX hbX hsX hone4 hml cu cn8
                        go_wp2_with fail
                        exact ⟨⟨j + 1, _, rfl, by go_num, by omega, HB9.out, hz9, HW9.out, HC9.out, HP9.out⟩, by simp [intOf]; omega⟩
end Go.Proofs.Ytcohjjepigikjaa
namespace Go.Proofs.Ytcohjjepigikjaa
open Go.RowKit
set_option linter.unusedSimpArgs false
set_option linter.unusedVariables false
theorem chg_pos {a b : List If} : ∀ c ∈ chgF a b, 1 ≤ c.kind := fun c hc => by have := (chg_mem.1 hc).2.2; omega
theorem may_of {a b : List If} (h : fairB a b = true) : mayP a = true ∧ mayP b = true := by
  rw [fairB, Bool.and_eq_true, Bool.and_eq_true] at h
  exact ⟨h.1, h.2.1⟩
set_option maxRecDepth 100000 in
set_option maxHeartbeats 8000000 in
theorem tells_c (A A' : Option Addr) (c c' B : Nat) (x y : List If) (w : World) (h1 : IfsAt w B A x) (h2 : IfsAt w B A' y) (hB : B ≤ w.heap.size) (hl : x.length ≤ maxLen) (hl' : y.length ≤ maxLen) :
    Calls Try.prog 3 #[.slice A x.length c, .slice A' y.length c'] w fun e w' => e = .returned (.bool true) ∧ Below w.heap.size w w' := by
  have H1 := Lib.hid h1
  have H2 := Lib.hid h2
  have F1 := fun w h hB => FewI_c x A c B w h hB hl
  have F2 := fun w h hB => FewI_c y A' c' B w h hB hl'
  obtain ⟨f1, e1⟩ : ∃ f, FewI x = f := ⟨_, rfl⟩
  obtain ⟨f2, e2⟩ : ∃ f, FewI y = f := ⟨_, rfl⟩
  simp only [e1] at F1
  simp only [e2] at F2
  have G1 := Lib.hid F1
  have G2 := Lib.hid F2
  have E1 := Lib.hid e1
  have E2 := Lib.hid e2
  clear h1 h2 F1 F2 e1 e2
  have ee := eq_err
  have en := eq_errnil
  have ne := neq_errnil
  go_enter Try.func3, Try.ntmps3
  go_upto_region 2 with (go_at_call 5; refine (upB_c w).mono ?_; rintro e w1 ⟨rfl, hb⟩; have B1 := Lib.hid hb; clear hb)
  go_upto_region 3 with (go_at_call 6; refine (G1.out _ (H1.out.under (B1.out.mono hB)) (Nat.le_trans hB B1.out.size)).mono ?_; rintro e w2 ⟨rfl, hb⟩; have B2 := Lib.hid (B1.out.trans (hb.mono B1.out.size)); clear hb)
  go_upto_region 4 with (go_at_call 6; refine (G2.out _ (H2.out.under (B2.out.mono hB)) (Nat.le_trans hB B2.out.size)).mono ?_; rintro e w3 ⟨rfl, hb⟩; have B3 := Lib.hid (B2.out.trans (hb.mono B2.out.size)); clear hb)
  clear B1 B2
  cases f1
  · go_wp2_with fail
    go_ret
    exact ⟨rfl, B3.out⟩
  cases f2
  · go_wp2_with fail
    go_ret
    exact ⟨rfl, B3.out⟩
  have fa := E1.out
  have fb := E2.out
  rw [FewI, Bool.and_eq_true, decide_eq_true_eq] at fa fb
  obtain ⟨ha, hfa⟩ := fa
  obtain ⟨hb, hfb⟩ := fb
  have MA := fun w h hB => bumpMay_c x A c B w h hB hl
  have MB := fun w h hB => bumpMay_c y A' c' B w h hB hl'
  have NA := fun w h hB => refMay12_c x A c B w h hB hl hfa
  have NB := fun w h hB => refMay12_c y A' c' B w h hB hl' hfb
  have FR := fun w h1 h2 hB => fair_c A A' c c' B x y w h1 h2 hB (by omega) (by omega) hfa hfb
  obtain ⟨m1, hm1⟩ : ∃ m, mayP x = m := ⟨_, rfl⟩
  obtain ⟨m2, hm2⟩ : ∃ m, mayP y = m := ⟨_, rfl⟩
  have hn1 : (m1 != m1) = false := by simp
  have hn2 : (m2 != m2) = false := by simp
  cases hf : fairB x y
  · have C1 := fun w h1 h2 hB => unfair_c A A' c c' B x y w h1 h2 hB (by omega) (by omega) hf
    have C2 := fun w h1 h2 hB => ofNo_c A A' c c' B x y w h1 h2 hB (by omega) (by omega) hf
    simp only [hm1] at MA NA
    simp only [hm2] at MB NB
    simp only [hf] at FR
    have K1 := Lib.hid C1
    have K2 := Lib.hid C2
    have K3 := Lib.hid MA
    have K4 := Lib.hid NA
    have K5 := Lib.hid MB
    have K6 := Lib.hid NB
    have K7 := Lib.hid FR
    clear C1 C2 MA MB NA NB FR hm1 hm2 hf ha hb hfa hfb E1 E2 G1 G2 hl hl'
    go_upto_region 7 with (go_at_call 7; refine (K1.out _ (H1.out.under (B3.out.mono hB)) (H2.out.under (B3.out.mono hB)) (Nat.le_trans hB B3.out.size)).mono ?_; rintro e w4 ⟨rfl, hb⟩; have B4 := Lib.hid (B3.out.trans (hb.mono B3.out.size)); clear hb)
    go_upto_region 8 with (go_at_call 8; refine (K2.out _ (H1.out.under (B4.out.mono hB)) (H2.out.under (B4.out.mono hB)) (Nat.le_trans hB B4.out.size)).mono ?_; rintro e w5 ⟨rfl, hb⟩; have B5 := Lib.hid (B4.out.trans (hb.mono B4.out.size)); clear hb)
    go_upto_region 10 with (first
      | (have h0 := B8; go_at_call 10; refine (K6.out _ (H2.out.under (B8.out.mono hB)) (Nat.le_trans hB B8.out.size)).mono ?_; rintro e w9 ⟨rfl, hb⟩; have B9 := Lib.hid (B8.out.trans (hb.mono B8.out.size)); clear hb)
      | (have h0 := B7; go_at_call 9; refine (K5.out _ (H2.out.under (B7.out.mono hB)) (Nat.le_trans hB B7.out.size)).mono ?_; rintro e w8 ⟨rfl, hb⟩; have B8 := Lib.hid (B7.out.trans (hb.mono B7.out.size)); clear hb)
      | (have h0 := B6; go_at_call 10; refine (K4.out _ (H1.out.under (B6.out.mono hB)) (Nat.le_trans hB B6.out.size)).mono ?_; rintro e w7 ⟨rfl, hb⟩; have B7 := Lib.hid (B6.out.trans (hb.mono B6.out.size)); clear hb)
      | (go_at_call 9; refine (K3.out _ (H1.out.under (B5.out.mono hB)) (Nat.le_trans hB B5.out.size)).mono ?_; rintro e w6 ⟨rfl, hb⟩; have B6 := Lib.hid (B5.out.trans (hb.mono B5.out.size)); clear hb))
    go_wp2_with (go_at_call 11; refine (K7.out _ (H1.out.under (B9.out.mono hB)) (H2.out.under (B9.out.mono hB)) (Nat.le_trans hB B9.out.size)).mono ?_; rintro e w10 ⟨rfl, hb⟩; have B10 := Lib.hid (B9.out.trans (hb.mono B9.out.size)); clear hb)
    go_ret
    exact ⟨rfl, B10.out⟩
  · have C1 := fun w h1 h2 hB => changes_c A A' c c' B x y w h1 h2 hB (by omega) (by omega) hf hfa hfb
    have C2 := fun w h1 h2 hB => ofYes_c A A' c c' B x y w h1 h2 hB (by omega) (by omega) hf hfa hfb
    have C3 := fun w h1 h2 hB => refChg_c A A' c c' B x y w h1 h2 hB (by omega) (by omega) hfa hfb (may_of hf).1 (may_of hf).2
    obtain ⟨R, hR⟩ : ∃ R, chgF x y = R := ⟨_, rfl⟩
    have hRl : R.length ≤ 2000000 := by rw [← hR]; exact Nat.le_trans (chgF_len (by omega) (by omega) hfa hfb) (by omega)
    have hRk : ∀ c ∈ R, 1 ≤ c.kind := by rw [← hR]; exact chg_pos
    simp only [hm1] at MA NA
    simp only [hm2] at MB NB
    simp only [hf] at FR
    simp only [hR] at C1 C2 C3
    have HRL := Lib.hid hRl
    have HRK := Lib.hid hRk
    have K1 := Lib.hid C1
    have K2 := Lib.hid C2
    have K3 := Lib.hid MA
    have K4 := Lib.hid NA
    have K5 := Lib.hid MB
    have K6 := Lib.hid NB
    have K7 := Lib.hid FR
    have K8 := Lib.hid C3
    clear C1 C2 C3 MA MB NA NB FR hm1 hm2 hf ha hb hfa hfb E1 E2 G1 G2 hl hl' hR hRl hRk
    go_upto_region 7 with (go_at_call 7; refine (K1.out _ (H1.out.under (B3.out.mono hB)) (H2.out.under (B3.out.mono hB)) (Nat.le_trans hB B3.out.size)).mono ?_; rintro e w4 ⟨v1, rfl, ho, hb⟩; have B4 := Lib.hid (B3.out.trans (hb.mono B3.out.size)); have R4 := Lib.hid (ChgAt.own ho); clear hb ho)
    go_upto_region 8 with (go_at_call 8; refine (K2.out _ (H1.out.under (B4.out.mono hB)) (H2.out.under (B4.out.mono hB)) (Nat.le_trans hB B4.out.size)).mono ?_; rintro e w5 ⟨rfl, hb⟩; have B5 := Lib.hid (B4.out.trans (hb.mono B4.out.size)); have R5 := Lib.hid (R4.out.under hb); clear hb)
    go_upto_region 10 with (first
      | (have h0 := B8; go_at_call 10; refine (K6.out _ (H2.out.under (B8.out.mono hB)) (Nat.le_trans hB B8.out.size)).mono ?_; rintro e w9 ⟨rfl, hb⟩; have B9 := Lib.hid (B8.out.trans (hb.mono B8.out.size)); have R9 := Lib.hid (R8.out.under hb); clear hb)
      | (have h0 := B7; go_at_call 9; refine (K5.out _ (H2.out.under (B7.out.mono hB)) (Nat.le_trans hB B7.out.size)).mono ?_; rintro e w8 ⟨rfl, hb⟩; have B8 := Lib.hid (B7.out.trans (hb.mono B7.out.size)); have R8 := Lib.hid (R7.out.under hb); clear hb)
      | (have h0 := B6; go_at_call 10; refine (K4.out _ (H1.out.under (B6.out.mono hB)) (Nat.le_trans hB B6.out.size)).mono ?_; rintro e w7 ⟨rfl, hb⟩; have B7 := Lib.hid (B6.out.trans (hb.mono B6.out.size)); have R7 := Lib.hid (R6.out.under hb); clear hb)
      | (go_at_call 9; refine (K3.out _ (H1.out.under (B5.out.mono hB)) (Nat.le_trans hB B5.out.size)).mono ?_; rintro e w6 ⟨rfl, hb⟩; have B6 := Lib.hid (B5.out.trans (hb.mono B5.out.size)); have R6 := Lib.hid (R5.out.under hb); clear hb))
    go_upto_region 13 with (go_at_call 11; refine (K7.out _ (H1.out.under (B9.out.mono hB)) (H2.out.under (B9.out.mono hB)) (Nat.le_trans hB B9.out.size)).mono ?_; rintro e w10 ⟨rfl, hb⟩; have B10 := Lib.hid (B9.out.trans (hb.mono B9.out.size)); have R10 := Lib.hid (R9.out.under hb); clear hb)
    go_upto_region 14 with (go_at_call 12; refine (K8.out _ (H1.out.under (B10.out.mono hB)) (H2.out.under (B10.out.mono hB)) (Nat.le_trans hB B10.out.size)).mono ?_; rintro e w11 ⟨v2, rfl, ho, hb⟩; have B11 := Lib.hid (B10.out.trans (hb.mono B10.out.size)); have R11 := Lib.hid (R10.out.under hb); have S11 := Lib.hid (ChgAt.own ho); clear hb ho)
    go_wp2_with (first
      | (go_at_call 13; refine (chgSame_c R v1 v2 _ R11.out S11.out HRL.out).mono ?_; rintro e w12 ⟨rfl, hb⟩; have B12 := Lib.hid (B11.out.trans (hb.mono B11.out.size)); have S12 := Lib.hid (S11.out.under hb); clear hb)
      | (go_at_call 14; refine (refBump_c R v2 _ S12.out HRK.out HRL.out).mono ?_; rintro e w13 ⟨rfl, rfl⟩))
    go_ret
    exact ⟨rfl, B12.out⟩
end Go.Proofs.Ytcohjjepigikjaa
namespace Go.Proofs.Ytcohjjepigikjaa
open Go.ChangeShapes Go.WideShapes Go.ChangeAt Go.RowKit
theorem own : ownKnob Try.prog.godebug = none := by kernel_rfl
theorem laidOut : laidOutB Try.prog = true := by kernel_rfl
set_option maxRecDepth 100000 in
theorem tells_lifted (os : Os) (started : os.Started) (H : Type) (enc : TypeId × Value → H) :
    ReturnsInHanded {} Try.checked os 3 .any (Rows.bumpTellsSpec.pre6 enc Try.prog Try.f3 Rows.bumpTellsRow.domain false) (Rows.bumpTellsSpec.post enc Try.prog Try.f3 false true false false) := by
  refine returnsInHanded_of_change (C := Try.checked) own started (by kernel_rfl) Try.func3
    (ChangeSpec.witness6 (enc := enc) (C := Try.checked) false ⟨#[], #[.slice none 0 0, .slice none 0 0], []⟩ 8 (by kernel_rfl) (by kernel_rfl) (by kernel_rfl) (by kernel_rfl)) ?_
  intro W base args ds gs before hval0 hW hcnd _
  have hval : ∀ (j : Nat) t v, Try.f3.params[j]? = some t → args[j]? = some v → Value.okWide Try.prog W .any base t v := hval0
  have hW' := hW
  obtain ⟨p, q, hA0, hV, rfl, hfz, hnd⟩ := hW
  have hA : DataW.TrodAll enc Try.prog W 0 (fun _ => true) true Try.f3.params.toList args.toList ds p := hA0
  rw [Try.params3] at hA hval
  obtain ⟨v0, vs0, d0, ds0, p0, q0, hargs, rfl, rfl, h0, r0⟩ := trodAll_cons hA
  obtain ⟨v1, vs1, d1, ds1, p1, q1, rfl, rfl, rfl, h1, r1⟩ := trodAll_cons r0
  obtain ⟨rfl, rfl, rfl⟩ := trodAll_nil r1
  obtain rfl : args = #[v0, v1] := by cases args; simp_all
  obtain ⟨rfl, rfl⟩ := trodVars_none hV
  obtain ⟨a0, c0, l0, rfl, hlc0, hcm0, ht0⟩ := open_ifs (hval 0 22 v0 rfl rfl) h0
  obtain ⟨a1, c1, l1, rfl, hlc1, hcm1, ht1⟩ := open_ifs (hval 1 22 v1 rfl rfl) h1
  have hlt := hW'.lt
  clear hA0 hval0
  refine (tells_c a0 a1 c0 c1 W.heap.size l0 l1 W ht0 ht1 (Nat.le_refl _) (Nat.le_trans hlc0 hcm0) (Nat.le_trans hlc1 hcm1)).mono fun e W' ⟨he, bel⟩ => ?_
  subst he
  have b0 := Below.trod laidOut (by kernel_rfl) (of_decide_eq_true (by kernel_rfl)) h0 bel (fun x hx => hlt x (by simp [hx]))
  have b1 := Below.trod laidOut (by kernel_rfl) (of_decide_eq_true (by kernel_rfl)) h1 bel (fun x hx => hlt x (by simp [hx]))
  exact ⟨_, rfl, _, _, _, [], _, [], hW', trodAll_mk1 (shut_bool Try.underlying4 _), (trodAll_cons_mk b0 (trodAll_cons_mk b1 trodAll_mk0)), rfl, bel.frame _, fun h => by cases h⟩
theorem tells_holds : Rows.BumpTellsSaid :=
  OpenClaim.holds_of_wide 3 Try.f3 rfl rfl rfl rfl rfl rfl rfl ⟨rfl, rfl, rfl, rfl, rfl⟩ rfl rfl rfl rfl rfl (by kernel_rfl) Try.func3 (by kernel_rfl)
    (of_decide_eq_true (by kernel_rfl)) (by unfold Func.isWrapper; first | (rw [if_pos (by decide +kernel)]; kernel_rfl) | (rw [if_neg (by decide +kernel)]; exact ⟨rfl, rfl⟩))
    (fun os started H enc _ => tells_lifted os started H enc)
#print axioms tells_holds
end Go.Proofs.Ytcohjjepigikjaa
