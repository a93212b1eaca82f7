/- The contracts of package semver's small functions, and of the document's. -/
import Derived.Test.YtlpgkldialmofaaGreatDoorBlkS
import Derived.Test.YtlpgkldialmofaaGreatDoorRegM
import Derived.Deep.DeepCutAuto
import Derived.Deep.Cut
namespace Go.Proofs.YtlpgkldialmofaaGreatDoor
open Go.RowKit
set_option linter.unusedSimpArgs false
set_option linter.unusedVariables false
theorem ret_b {a b : Bool} (h : a = b) : Ending.returned (.bool a) = Ending.returned (.bool b) := by rw [h]
theorem Until.off {cs : List (Nat × (World → Prop))} {l : Array Bool} {w : World} (h : (cs.all fun x => l.getD x.1 true) = true) : Until cs l w := fun x hx hl => by
  have := List.all_eq_true.1 h x hx
  rw [hl] at this
  cases this
def cmpI (x y : Int) : Int := if x < y then -1 else if y < x then 1 else 0
def orI (x y z : Int) : Int := if x ≠ 0 then x else if y ≠ 0 then y else z
theorem nan_c (x : Int) (w : World) : Calls Tryz.prog 92 #[.int .i64 x] w fun e w' => e = .returned (.bool false) ∧ w = w' := by
  go_enter Tryz.func92, Tryz.ntmps92
  go_wp2
  go_ret
  exact ⟨by simp, rfl⟩
theorem compare_c (x y : Int) (w : World) : Calls Tryz.prog 82 #[.int .i64 x, .int .i64 y] w fun e w' => e = .returned (.int .i64 (cmpI x y)) ∧ w = w' := by
  by_cases h1 : x < y
  · rw [cmpI, if_pos h1]
    go_enter Tryz.func82, Tryz.ntmps82
    go_wp2_with (go_at_call 92; refine (nan_c _ _).mono ?_; rintro e w' ⟨rfl, rfl⟩)
    go_ret
    exact ⟨rfl, rfl⟩
  · by_cases h2 : y < x
    · rw [cmpI, if_neg h1, if_pos h2]
      go_enter Tryz.func82, Tryz.ntmps82
      go_wp2_with (go_at_call 92; refine (nan_c _ _).mono ?_; rintro e w' ⟨rfl, rfl⟩)
      go_ret
      exact ⟨rfl, rfl⟩
    · rw [cmpI, if_neg h1, if_neg h2]
      go_enter Tryz.func82, Tryz.ntmps82
      go_wp2_with (go_at_call 92; refine (nan_c _ _).mono ?_; rintro e w' ⟨rfl, rfl⟩)
      go_ret
      exact ⟨rfl, rfl⟩
theorem or_c (b : Nat) (x y z : Int) (w : World) (h0 : w.cell? ⟨b, 0, none⟩ = some (.int .i64 x)) (h1 : w.cell? ⟨b, 1, none⟩ = some (.int .i64 y)) (h2 : w.cell? ⟨b, 2, none⟩ = some (.int .i64 z)) :
    Calls Tryz.prog 81 #[.slice (some ⟨b, 0, none⟩) 3 3] w fun e w' => e = .returned (.int .i64 (orI x y z)) ∧ w = w' := by
  obtain ⟨v, hv⟩ : ∃ v, orI x y z = v := ⟨_, rfl⟩
  have HV := Lib.hid hv
  rw [hv]
  clear hv
  go_enter Tryz.func81, Tryz.ntmps81
  go_wp2_with fail
  go_loopw [5, 8] (fun _ i wr => w = wr ∧ (i = .int .i64 0 ∨ (i = .int .i64 1 ∧ x = 0) ∨ (i = .int .i64 2 ∧ x = 0 ∧ y = 0) ∨ (i = .int .i64 3 ∧ x = 0 ∧ y = 0 ∧ z = 0))) (fun _ i _ => 3 - (intOf i).toNat)
  case atStart => exact ⟨rfl, .inl rfl⟩
  case round =>
    obtain ⟨rfl, rfl | ⟨rfl, rfl⟩ | ⟨rfl, rfl, rfl⟩ | ⟨rfl, rfl, rfl, rfl⟩⟩ := hrel
    · by_cases hx : x = 0
      · subst hx
        go_wp2
        exact ⟨⟨trivial, by simp⟩, by simp [intOf]⟩
      · have hv : v = x := by rw [← HV.out, orI, if_pos hx]
        subst hv
        go_wp2
        go_ret
        exact ⟨rfl, rfl⟩
    · by_cases hx : y = 0
      · subst hx
        go_wp2
        exact ⟨⟨trivial, by simp⟩, by simp [intOf]⟩
      · have hv : v = y := by rw [← HV.out, orI, if_neg (by simp), if_pos hx]
        subst hv
        go_wp2
        go_ret
        exact ⟨rfl, rfl⟩
    · by_cases hx : z = 0
      · subst hx
        go_wp2
        exact ⟨⟨trivial, by simp⟩, by simp [intOf]⟩
      · have hv : v = z := by rw [← HV.out, orI, if_neg (by simp), if_neg (by simp)]
        subst hv
        go_wp2
        go_ret
        exact ⟨rfl, rfl⟩
    · have hv : v = 0 := by rw [← HV.out]; rfl
      subst hv
      go_wp2
      go_ret
      exact ⟨rfl, rfl⟩
def partB (n : Int) : Bool := decide (0 ≤ n) && decide (n ≤ 999999999)
theorem part_c (n : Int) (w : World) : Calls Tryz.prog 56 #[.int .i64 n] w fun e w' => e = .returned (.bool (partB n)) ∧ w = w' := by
  by_cases h1 : 0 ≤ n
  · by_cases h2 : n ≤ 999999999
    · rw [partB, decide_eq_true h1, decide_eq_true h2]
      go_enter Tryz.func56, Tryz.ntmps56
      go_wp2
      go_ret
      exact ⟨rfl, rfl⟩
    · rw [partB, decide_eq_true h1, decide_eq_false h2]
      go_enter Tryz.func56, Tryz.ntmps56
      go_wp2
      go_ret
      exact ⟨rfl, rfl⟩
  · rw [partB, decide_eq_false h1]
    go_enter Tryz.func56, Tryz.ntmps56
    go_wp2
    go_ret
    exact ⟨rfl, rfl⟩
def ver (a b c : Int) : Array Value := #[.int .i64 a, .int .i64 b, .int .i64 c]
def mayB (a b c : Int) : Bool := partB a && decide (0 < a) && partB b && partB c
theorem semMay_c (a b c : Int) (w : World) : Calls Tryz.prog 34 #[.agg (ver a b c)] w fun e w' => e = .returned (.bool (mayB a b c)) ∧ Below w.heap.size w w' := by
  obtain ⟨v, hv⟩ : ∃ v, mayB a b c = v := ⟨_, rfl⟩
  have HV := Lib.hid hv
  rw [hv]
  clear hv
  go_enter Tryz.func34, Tryz.ntmps34
  simp only [ver]
  go_wp2_with (go_at_call 56; refine (part_c _ _).mono ?_; rintro e w' ⟨rfl, rfl⟩)
  all_goals
    go_ret
    exact ⟨ret_b (by rw [← HV.out, mayB]; simp_all; try (intros; omega)), (Below.refl _ _).alloc (Nat.le_refl _) _⟩
theorem refMay_c (a b c : Int) (w : World) : Calls Tryz.prog 40 #[.agg (ver a b c)] w fun e w' => e = .returned (.bool (mayB a b c)) ∧ Below w.heap.size w w' := by
  obtain ⟨v, hv⟩ : ∃ v, mayB a b c = v := ⟨_, rfl⟩
  have HV := Lib.hid hv
  rw [hv]
  clear hv
  go_enter Tryz.func40, Tryz.ntmps40
  simp only [ver]
  go_wp2
  all_goals
    go_ret
    exact ⟨ret_b (by rw [← HV.out]; first | (simp [mayB, partB]; omega) | (simp_all [mayB, partB]; done) | (simp_all [mayB, partB]; omega)), (Below.refl _ _).alloc (Nat.le_refl _) _⟩
def belowB (a1 a2 a3 b1 b2 b3 : Int) : Bool := if a1 ≠ b1 then decide (a1 < b1) else if a2 ≠ b2 then decide (a2 < b2) else decide (a3 < b3)
theorem below_c (a1 a2 a3 b1 b2 b3 : Int) (w : World) : Calls Tryz.prog 65 #[.agg (ver a1 a2 a3), .agg (ver b1 b2 b3)] w fun e w' => e = .returned (.bool (belowB a1 a2 a3 b1 b2 b3)) ∧ Below w.heap.size w w' := by
  have hb : Below w.heap.size w ((w.alloc (.cells #[.int .i64 a1, .int .i64 a2, .int .i64 a3] 24)).alloc (.cells #[.int .i64 b1, .int .i64 b2, .int .i64 b3] 24)) := ((Below.refl _ _).alloc (Nat.le_refl _) _).alloc (by simp) _
  by_cases h1 : a1 = b1
  · by_cases h2 : a2 = b2
    · rw [belowB, if_neg (by simp [h1]), if_neg (by simp [h2])]
      subst h1 h2
      go_enter Tryz.func65, Tryz.ntmps65
      simp only [ver]
      go_wp2
      go_ret
      exact ⟨rfl, hb⟩
    · rw [belowB, if_neg (by simp [h1]), if_pos h2]
      subst h1
      go_enter Tryz.func65, Tryz.ntmps65
      simp only [ver]
      go_wp2
      go_ret
      exact ⟨rfl, hb⟩
  · rw [belowB, if_pos h1]
    go_enter Tryz.func65, Tryz.ntmps65
    simp only [ver]
    go_wp2
    go_ret
    exact ⟨rfl, hb⟩
theorem cells3 {w : World} {b : Nat} {T : TypeId} {v0 v1 v2 : Value} (h : Blk w b #[v0, v1, v2] T) : w.cell? ⟨b, 0, none⟩ = some v0 ∧ w.cell? ⟨b, 1, none⟩ = some v1 ∧ w.cell? ⟨b, 2, none⟩ = some v2 := ⟨h.cell 0, h.cell 1, h.cell 2⟩
theorem two3 (w : World) (c0 c1 : Array Value) (T0 T1 : TypeId) : Blk ((w.alloc (.cells c0 T0)).alloc (.cells c1 T1)) w.heap.size c0 T0 ∧ Blk ((w.alloc (.cells c0 T0)).alloc (.cells c1 T1)) (w.heap.size + 1) c1 T1 ∧ ((w.alloc (.cells c0 T0)).alloc (.cells c1 T1)).heap.size = w.heap.size + 1 + 1 ∧ Below w.heap.size w ((w.alloc (.cells c0 T0)).alloc (.cells c1 T1)) := by
  have e1 : (w.alloc (.cells c0 T0)).heap.size = w.heap.size + 1 := by simp
  have b1 := Blk.new (w.alloc (.cells c0 T0)) c1 T1
  rw [e1] at b1
  exact ⟨(Blk.new w c0 T0).alloc _, b1, by simp, ((Below.refl _ w).alloc (Nat.le_refl _) _).alloc (by simp) _⟩
def cmpV (a1 a2 a3 b1 b2 b3 : Int) : Int := orI (cmpI a1 b1) (cmpI a2 b2) (cmpI a3 b3)
set_option maxRecDepth 100000 in
set_option maxHeartbeats 4000000 in
theorem cmp_c (a1 a2 a3 b1 b2 b3 : Int) (w : World) : Calls Tryz.prog 61 #[.agg (ver a1 a2 a3), .agg (ver b1 b2 b3)] w fun e w' => e = .returned (.int .i64 (cmpV a1 a2 a3 b1 b2 b3)) ∧ Below w.heap.size w w' := by
  obtain ⟨v, hv⟩ : ∃ v, cmpV a1 a2 a3 b1 b2 b3 = v := ⟨_, rfl⟩
  have HV := Lib.hid hv
  rw [hv]
  clear hv
  go_enter Tryz.func61, Tryz.ntmps61
  simp only [ver]
  go_upto_region 1 with fail
  have h2 := two3 w #[.int .i64 a1, .int .i64 a2, .int .i64 a3] #[.int .i64 b1, .int .i64 b2, .int .i64 b3] 24 24
  generalize ((w.alloc (.cells #[.int .i64 a1, .int .i64 a2, .int .i64 a3] 24)).alloc (.cells #[.int .i64 b1, .int .i64 b2, .int .i64 b3] 24)) = W at h2 ⊢
  obtain ⟨x0, x1, xs, xb⟩ := h2
  have X0 := Lib.hid x0
  have X1 := Lib.hid x1
  have XB := Lib.hid xb
  clear x0 x1 xb
  obtain ⟨p1, hp1⟩ : ∃ v, cmpI a1 b1 = v := ⟨_, rfl⟩
  obtain ⟨p2, hp2⟩ : ∃ v, cmpI a2 b2 = v := ⟨_, rfl⟩
  obtain ⟨p3, hp3⟩ : ∃ v, cmpI a3 b3 = v := ⟨_, rfl⟩
  have HP1 := Lib.hid hp1
  have HP2 := Lib.hid hp2
  have HP3 := Lib.hid hp3
  clear hp1 hp2 hp3
  have dn := Lib.hid (show Below W.heap.size W W.drew from (Below.refl _ _).drew)
  refine wp_region_until [(4, fun w' => w'.cell? ⟨w.heap.size, 0, none⟩ = some (.int .i64 a1)), (4, fun w' => w'.cell? ⟨w.heap.size + 1, 0, none⟩ = some (.int .i64 b1)), (9, fun w' => w'.cell? ⟨w.heap.size, 1, none⟩ = some (.int .i64 a2)), (9, fun w' => w'.cell? ⟨w.heap.size + 1, 1, none⟩ = some (.int .i64 b2)), (14, fun w' => w'.cell? ⟨w.heap.size, 2, none⟩ = some (.int .i64 a3)), (14, fun w' => w'.cell? ⟨w.heap.size + 1, 2, none⟩ = some (.int .i64 b3))] (by kernel_rfl) (Until.cons (fun _ => (cells3 (X0.out.under dn.out X0.out.lt)).1) (Until.cons (fun _ => (cells3 (X1.out.under dn.out X1.out.lt)).1) (Until.cons (fun _ => (cells3 (X0.out.under dn.out X0.out.lt)).2.1) (Until.cons (fun _ => (cells3 (X1.out.under dn.out X1.out.lt)).2.1) (Until.cons (fun _ => (cells3 (X0.out.under dn.out X0.out.lt)).2.2) (Until.cons (fun _ => (cells3 (X1.out.under dn.out X1.out.lt)).2.2) Until.nil)))))) (fun hU => ?_)
  refine AnyU.take (i := 0) (v := ?_) rfl (by kernel_rfl) (by kernel_rfl) (by kernel_rfl) (fun _ _ _ h => h) (by kernel_rfl) (by assumption) (by rfl) ?_ (fun hU => ?_)
  rotate_left 1
  · (intro wq; go_simp; try with_reducible rfl)
  simp only [Act.put, List.getElem_toArray, List.getElem_cons_zero, List.getElem_cons_succ, List.setIfInBounds_toArray, List.set_cons_zero, List.set_cons_succ]
  refine AnyU.loadc (i := 1) (d := 4) [4] (Si := fun w' => w'.cell? ⟨w.heap.size, 0, none⟩ = some (.int .i64 a1)) (v := ?_) rfl (by kernel_rfl) (by kernel_rfl) (by kernel_rfl) (fun _ _ _ h => h) (by kernel_rfl) (by assumption) (by kernel_rfl) rfl (by simp) (by rfl) ?_ (fun hU => ?_)
  rotate_left 1
  · (intro wq hq; go_simp; try with_reducible rfl)
  simp only [Act.put, List.getElem_toArray, List.getElem_cons_zero, List.getElem_cons_succ, List.setIfInBounds_toArray, List.set_cons_zero, List.set_cons_succ]
  refine AnyU.take (i := 2) (v := ?_) rfl (by kernel_rfl) (by kernel_rfl) (by kernel_rfl) (fun _ _ _ h => h) (by kernel_rfl) (by assumption) (by rfl) ?_ (fun hU => ?_)
  rotate_left 1
  · (intro wq; go_simp; try with_reducible rfl)
  simp only [Act.put, List.getElem_toArray, List.getElem_cons_zero, List.getElem_cons_succ, List.setIfInBounds_toArray, List.set_cons_zero, List.set_cons_succ]
  refine AnyU.loadc (i := 3) (d := 4) [4] (Si := fun w' => w'.cell? ⟨w.heap.size + 1, 0, none⟩ = some (.int .i64 b1)) (v := ?_) rfl (by kernel_rfl) (by kernel_rfl) (by kernel_rfl) (fun _ _ _ h => h) (by kernel_rfl) (by assumption) (by kernel_rfl) rfl (by simp) (by rfl) ?_ (fun hU => ?_)
  rotate_left 1
  · (intro wq hq; go_simp; try with_reducible rfl)
  simp only [Act.put, List.getElem_toArray, List.getElem_cons_zero, List.getElem_cons_succ, List.setIfInBounds_toArray, List.set_cons_zero, List.set_cons_succ]
  refine AnyU.take (i := 5) (v := ?_) rfl (by kernel_rfl) (by kernel_rfl) (by kernel_rfl) (fun _ _ _ h => h) (by kernel_rfl) (by assumption) (by rfl) ?_ (fun hU => ?_)
  rotate_left 1
  · (intro wq; go_simp; try with_reducible rfl)
  simp only [Act.put, List.getElem_toArray, List.getElem_cons_zero, List.getElem_cons_succ, List.setIfInBounds_toArray, List.set_cons_zero, List.set_cons_succ]
  refine AnyU.loadc (i := 6) (d := 9) [9] (Si := fun w' => w'.cell? ⟨w.heap.size, 1, none⟩ = some (.int .i64 a2)) (v := ?_) rfl (by kernel_rfl) (by kernel_rfl) (by kernel_rfl) (fun _ _ _ h => h) (by kernel_rfl) (by assumption) (by kernel_rfl) rfl (by simp) (by rfl) ?_ (fun hU => ?_)
  rotate_left 1
  · (intro wq hq; go_simp; try with_reducible rfl)
  simp only [Act.put, List.getElem_toArray, List.getElem_cons_zero, List.getElem_cons_succ, List.setIfInBounds_toArray, List.set_cons_zero, List.set_cons_succ]
  refine AnyU.take (i := 7) (v := ?_) rfl (by kernel_rfl) (by kernel_rfl) (by kernel_rfl) (fun _ _ _ h => h) (by kernel_rfl) (by assumption) (by rfl) ?_ (fun hU => ?_)
  rotate_left 1
  · (intro wq; go_simp; try with_reducible rfl)
  simp only [Act.put, List.getElem_toArray, List.getElem_cons_zero, List.getElem_cons_succ, List.setIfInBounds_toArray, List.set_cons_zero, List.set_cons_succ]
  refine AnyU.loadc (i := 8) (d := 9) [9] (Si := fun w' => w'.cell? ⟨w.heap.size + 1, 1, none⟩ = some (.int .i64 b2)) (v := ?_) rfl (by kernel_rfl) (by kernel_rfl) (by kernel_rfl) (fun _ _ _ h => h) (by kernel_rfl) (by assumption) (by kernel_rfl) rfl (by simp) (by rfl) ?_ (fun hU => ?_)
  rotate_left 1
  · (intro wq hq; go_simp; try with_reducible rfl)
  simp only [Act.put, List.getElem_toArray, List.getElem_cons_zero, List.getElem_cons_succ, List.setIfInBounds_toArray, List.set_cons_zero, List.set_cons_succ]
  refine AnyU.take (i := 10) (v := ?_) rfl (by kernel_rfl) (by kernel_rfl) (by kernel_rfl) (fun _ _ _ h => h) (by kernel_rfl) (by assumption) (by rfl) ?_ (fun hU => ?_)
  rotate_left 1
  · (intro wq; go_simp; try with_reducible rfl)
  simp only [Act.put, List.getElem_toArray, List.getElem_cons_zero, List.getElem_cons_succ, List.setIfInBounds_toArray, List.set_cons_zero, List.set_cons_succ]
  refine AnyU.loadc (i := 11) (d := 14) [14] (Si := fun w' => w'.cell? ⟨w.heap.size, 2, none⟩ = some (.int .i64 a3)) (v := ?_) rfl (by kernel_rfl) (by kernel_rfl) (by kernel_rfl) (fun _ _ _ h => h) (by kernel_rfl) (by assumption) (by kernel_rfl) rfl (by simp) (by rfl) ?_ (fun hU => ?_)
  rotate_left 1
  · (intro wq hq; go_simp; try with_reducible rfl)
  simp only [Act.put, List.getElem_toArray, List.getElem_cons_zero, List.getElem_cons_succ, List.setIfInBounds_toArray, List.set_cons_zero, List.set_cons_succ]
  refine AnyU.take (i := 12) (v := ?_) rfl (by kernel_rfl) (by kernel_rfl) (by kernel_rfl) (fun _ _ _ h => h) (by kernel_rfl) (by assumption) (by rfl) ?_ (fun hU => ?_)
  rotate_left 1
  · (intro wq; go_simp; try with_reducible rfl)
  simp only [Act.put, List.getElem_toArray, List.getElem_cons_zero, List.getElem_cons_succ, List.setIfInBounds_toArray, List.set_cons_zero, List.set_cons_succ]
  refine AnyU.loadc (i := 13) (d := 14) [14] (Si := fun w' => w'.cell? ⟨w.heap.size + 1, 2, none⟩ = some (.int .i64 b3)) (v := ?_) rfl (by kernel_rfl) (by kernel_rfl) (by kernel_rfl) (fun _ _ _ h => h) (by kernel_rfl) (by assumption) (by kernel_rfl) rfl (by simp) (by rfl) ?_ (fun hU => ?_)
  rotate_left 1
  · (intro wq hq; go_simp; try with_reducible rfl)
  simp only [Act.put, List.getElem_toArray, List.getElem_cons_zero, List.getElem_cons_succ, List.setIfInBounds_toArray, List.set_cons_zero, List.set_cons_succ]
  refine AnyU.ready1 (i := 4) (by kernel_rfl) (AnyU.one rfl fun K hK => ?_)
  go_simp
  go_at_call 82
  refine (compare_c a1 b1 _).mono ?_
  rintro e wn ⟨rfl, rfl⟩
  rw [HP1.out]
  refine hK.out _ _ (Until.cons (fun h => absurd h (by decide)) (Until.cons (fun h => absurd h (by decide)) (Until.cons (fun _ => (cells3 (X0.out.under dn.out X0.out.lt)).2.1) (Until.cons (fun _ => (cells3 (X1.out.under dn.out X1.out.lt)).2.1) (Until.cons (fun _ => (cells3 (X0.out.under dn.out X0.out.lt)).2.2) (Until.cons (fun _ => (cells3 (X1.out.under dn.out X1.out.lt)).2.2) Until.nil)))))) (fun hU => ?_)
  clear hK K
  try simp only [Act.put, List.getElem_toArray, List.getElem_cons_zero, List.getElem_cons_succ, List.setIfInBounds_toArray, List.set_cons_zero, List.set_cons_succ]
  refine AnyU.ready1 (i := 9) (by kernel_rfl) (AnyU.one rfl fun K hK => ?_)
  go_simp
  go_at_call 82
  refine (compare_c a2 b2 _).mono ?_
  rintro e wn ⟨rfl, rfl⟩
  rw [HP2.out]
  refine hK.out _ _ (Until.cons (fun h => absurd h (by decide)) (Until.cons (fun h => absurd h (by decide)) (Until.cons (fun h => absurd h (by decide)) (Until.cons (fun h => absurd h (by decide)) (Until.cons (fun _ => (cells3 (X0.out.under dn.out X0.out.lt)).2.2) (Until.cons (fun _ => (cells3 (X1.out.under dn.out X1.out.lt)).2.2) Until.nil)))))) (fun hU => ?_)
  clear hK K
  try simp only [Act.put, List.getElem_toArray, List.getElem_cons_zero, List.getElem_cons_succ, List.setIfInBounds_toArray, List.set_cons_zero, List.set_cons_succ]
  refine AnyU.ready1 (i := 14) (by kernel_rfl) (AnyU.one rfl fun K hK => ?_)
  go_simp
  go_at_call 82
  refine (compare_c a3 b3 _).mono ?_
  rintro e wn ⟨rfl, rfl⟩
  rw [HP3.out]
  refine hK.out _ _ (Until.cons (fun h => absurd h (by decide)) (Until.cons (fun h => absurd h (by decide)) (Until.cons (fun h => absurd h (by decide)) (Until.cons (fun h => absurd h (by decide)) (Until.cons (fun h => absurd h (by decide)) (Until.cons (fun h => absurd h (by decide)) Until.nil)))))) (fun hU => ?_)
  clear hK K
  try simp only [Act.put, List.getElem_toArray, List.getElem_cons_zero, List.getElem_cons_succ, List.setIfInBounds_toArray, List.set_cons_zero, List.set_cons_succ]
  refine AnyU.ready1 (i := 15) (by kernel_rfl) (AnyU.one rfl fun K hK => ?_)
  go_simp
  refine hK.out _ _ (Until.off (by kernel_rfl)) (fun hU => ?_)
  clear hK K
  try simp only [Act.put, List.getElem_toArray, List.getElem_cons_zero, List.getElem_cons_succ, List.setIfInBounds_toArray, List.set_cons_zero, List.set_cons_succ]
  have y := Blk.new W #[.int .i64 p1, .int .i64 p2, .int .i64 p3] 3
  rw [xs] at y
  have hbd : Below W.heap.size W (W.alloc (.cells #[.int .i64 p1, .int .i64 p2, .int .i64 p3] 3)).drew := ((Below.refl _ W).alloc (Nat.le_refl _) _).drew
  refine AnyU.ready1 (i := 16) (by kernel_rfl) (AnyU.one rfl fun K hK => ?_)
  go_simp
  go_at_call 81
  refine (or_c (w.heap.size + 1 + 1) p1 p2 p3 _ (y.drew.cell 0) (y.drew.cell 1) (y.drew.cell 2)).mono ?_
  rintro e wn ⟨rfl, rfl⟩
  rw [show orI p1 p2 p3 = v from by rw [← HV.out, cmpV, HP1.out, HP2.out, HP3.out]]
  refine hK.out _ _ (Until.off (by kernel_rfl)) (fun hU => ?_)
  clear hK K
  try simp only [Act.put, List.getElem_toArray, List.getElem_cons_zero, List.getElem_cons_succ, List.setIfInBounds_toArray, List.set_cons_zero, List.set_cons_succ]
  refine AnyU.ready1 (i := 17) (by kernel_rfl) (AnyU.one rfl fun K hK => ?_)
  go_simp
  refine hK.out _ _ (Until.off (by kernel_rfl)) (fun hU => ?_)
  clear hK K
  try simp only [Act.put, List.getElem_toArray, List.getElem_cons_zero, List.getElem_cons_succ, List.setIfInBounds_toArray, List.set_cons_zero, List.set_cons_succ]
  refine AnyU.done (by kernel_rfl) ?_
  go_wp2
  go_ret
  exact ⟨rfl, acc0 XB.out XB.out.size hbd⟩
end Go.Proofs.YtlpgkldialmofaaGreatDoor
