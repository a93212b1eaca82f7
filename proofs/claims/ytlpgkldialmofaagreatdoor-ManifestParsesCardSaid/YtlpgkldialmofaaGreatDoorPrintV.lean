/- The contracts of semver.Print and of merlonref01.Print; the premise of the first: strconv's table is as the program lays it. -/
import Derived.Test.YtlpgkldialmofaaGreatDoorParseC
import Derived.Test.YtlpgkldialmofaaGreatDoorDigitsV
namespace Go.Proofs.YtlpgkldialmofaaGreatDoor
open Go.RowKit
set_option linter.unusedSimpArgs false
set_option linter.unusedVariables false
/-- a number's digits as Go's string -/
def digS (n : Int) : ByteArray := ba (Lib.decDigits n.toNat)
/-- a version's text as Go's string -/
def verS (a b c : Int) : ByteArray := digS a ++ { data := #[46] } ++ digS b ++ { data := #[46] } ++ digS c
theorem digS_data (n : Int) : (digS n).data.toList = Lib.decDigits n.toNat := rfl
theorem verS_data (a b c : Int) : (verS a b c).data.toList = textF a.toNat b.toNat c.toNat := by
  simp [verS, textF, digS_data]
theorem digS_size {n : Int} (h : n ≤ 999999999) : (digS n).size ≤ 9 := by
  rw [digS, ba_size]
  exact dec_len9 (by omega)
theorem point_size : ({ data := #[46] } : ByteArray).size = 1 := rfl
theorem digV_c (n : Int) (h0 : 0 ≤ n) (h1 : n ≤ 999999999) (w : World) : Calls Tryz.prog 62 #[.int .i64 n] w fun e w' => e = .returned (.string (digS n)) ∧ Below w.heap.size w w' := by
  obtain ⟨m, rfl⟩ : ∃ m : Nat, n = m := ⟨n.toNat, by omega⟩
  exact digits_c m (by omega) w
set_option maxRecDepth 100000 in
set_option maxHeartbeats 4000000 in
theorem refPrint_c (a b c : Int) (w : World) (h : mayB a b c = true) : Calls Tryz.prog 41 #[.agg (ver a b c)] w fun e w' => e = .returned (.string (verS a b c)) ∧ Below w.heap.size w w' := by
  obtain ⟨⟨a1, a2⟩, ⟨b1, b2⟩, ⟨c1, c2⟩⟩ := may_bounds h
  have s1 := digS_size (n := a) (by omega)
  have s2 := digS_size (n := b) (by omega)
  have s3 := digS_size (n := c) (by omega)
  obtain ⟨A, hA⟩ : ∃ A, digS a = A := ⟨_, rfl⟩
  obtain ⟨B, hB⟩ : ∃ A, digS b = A := ⟨_, rfl⟩
  obtain ⟨C, hC⟩ : ∃ A, digS c = A := ⟨_, rfl⟩
  rw [hA] at s1
  rw [hB] at s2
  rw [hC] at s3
  have z1 : ¬ 9223372036854775807 < A.size + 1 := by omega
  have z2 : ¬ 9223372036854775807 < A.size + 1 + B.size := by omega
  have z3 : ¬ 9223372036854775807 < A.size + 1 + B.size + 1 := by omega
  have z4 : ¬ 9223372036854775807 < A.size + 1 + B.size + 1 + C.size := by omega
  have KA := Lib.hid (fun w => digV_c a (by omega) (by omega) w)
  have KB := Lib.hid (fun w => digV_c b (by omega) (by omega) w)
  have KC := Lib.hid (fun w => digV_c c (by omega) (by omega) w)
  rw [hA] at KA
  rw [hB] at KB
  rw [hC] at KC
  have e : verS a b c = A ++ { data := #[46] } ++ B ++ { data := #[46] } ++ C := by rw [verS, hA, hB, hC]
  have HV := Lib.hid e
  clear hA hB hC e s1 s2 s3
  rw [HV.out]
  clear h a1 a2 b1 b2 c1 c2
  go_enter Tryz.func41, Tryz.ntmps41
  simp only [ver]
  go_upto_region 1 with fail
  have HX := Lib.hid (Blk.new w #[.int .i64 a, .int .i64 b, .int .i64 c] 24)
  have HB := Lib.hid ((Below.refl w.heap.size w).alloc (Nat.le_refl _) (.cells #[.int .i64 a, .int .i64 b, .int .i64 c] 24))
  generalize (w.alloc (.cells #[.int .i64 a, .int .i64 b, .int .i64 c] 24)) = W at HX HB ⊢
  refine wp_region_until [(2, fun w' => w'.cell? ⟨w.heap.size, 0, none⟩ = some (.int .i64 a)), (6, fun w' => w'.cell? ⟨w.heap.size, 1, none⟩ = some (.int .i64 b)), (11, fun w' => w'.cell? ⟨w.heap.size, 2, none⟩ = some (.int .i64 c))] (by kernel_rfl) (Until.cons (fun _ => HX.out.drew.cell 0) (Until.cons (fun _ => HX.out.drew.cell 1) (Until.cons (fun _ => HX.out.drew.cell 2) Until.nil))) (fun hU => ?_)
  have HX := Lib.hid HX.out.drew
  have HB := Lib.hid HB.out.drew
  refine AnyU.take (i := 0) (v := ?_) rfl (by kernel_rfl) (by kernel_rfl) (by kernel_rfl) (fun _ _ _ h => h) (by kernel_rfl) (by assumption) (by rfl) ?_ (fun hU => ?_)
  rotate_left 1
  · (intro wq; go_simp; try with_reducible rfl)
  simp only [Act.put, List.getElem_toArray, List.getElem_cons_zero, List.getElem_cons_succ, List.setIfInBounds_toArray, List.set_cons_zero, List.set_cons_succ]
  refine AnyU.take (i := 4) (v := ?_) rfl (by kernel_rfl) (by kernel_rfl) (by kernel_rfl) (fun _ _ _ h => h) (by kernel_rfl) (by assumption) (by rfl) ?_ (fun hU => ?_)
  rotate_left 1
  · (intro wq; go_simp; try with_reducible rfl)
  simp only [Act.put, List.getElem_toArray, List.getElem_cons_zero, List.getElem_cons_succ, List.setIfInBounds_toArray, List.set_cons_zero, List.set_cons_succ]
  refine AnyU.take (i := 9) (v := ?_) rfl (by kernel_rfl) (by kernel_rfl) (by kernel_rfl) (fun _ _ _ h => h) (by kernel_rfl) (by assumption) (by rfl) ?_ (fun hU => ?_)
  rotate_left 1
  · (intro wq; go_simp; try with_reducible rfl)
  simp only [Act.put, List.getElem_toArray, List.getElem_cons_zero, List.getElem_cons_succ, List.setIfInBounds_toArray, List.set_cons_zero, List.set_cons_succ]
  refine AnyU.load (i := 1) (d := 2) (Si := fun w' => w'.cell? ⟨w.heap.size, 0, none⟩ = some (.int .i64 a)) (v := ?_) rfl rfl (by kernel_rfl) (by kernel_rfl) (by kernel_rfl) (fun _ _ _ h => h) (by kernel_rfl) (by assumption) (by kernel_rfl) (by kernel_rfl) (by simp) (by rfl) ?_ (fun hU => ?_)
  rotate_left 1
  · (intro wq hq; go_simp; try with_reducible rfl)
  simp only [Act.put, List.getElem_toArray, List.getElem_cons_zero, List.getElem_cons_succ, List.setIfInBounds_toArray, List.set_cons_zero, List.set_cons_succ]
  refine AnyU.load (i := 5) (d := 6) (Si := fun w' => w'.cell? ⟨w.heap.size, 1, none⟩ = some (.int .i64 b)) (v := ?_) rfl rfl (by kernel_rfl) (by kernel_rfl) (by kernel_rfl) (fun _ _ _ h => h) (by kernel_rfl) (by assumption) (by kernel_rfl) (by kernel_rfl) (by simp) (by rfl) ?_ (fun hU => ?_)
  rotate_left 1
  · (intro wq hq; go_simp; try with_reducible rfl)
  simp only [Act.put, List.getElem_toArray, List.getElem_cons_zero, List.getElem_cons_succ, List.setIfInBounds_toArray, List.set_cons_zero, List.set_cons_succ]
  refine AnyU.load (i := 10) (d := 11) (Si := fun w' => w'.cell? ⟨w.heap.size, 2, none⟩ = some (.int .i64 c)) (v := ?_) rfl rfl (by kernel_rfl) (by kernel_rfl) (by kernel_rfl) (fun _ _ _ h => h) (by kernel_rfl) (by assumption) (by kernel_rfl) (by kernel_rfl) (by simp) (by rfl) ?_ (fun hU => ?_)
  rotate_left 1
  · (intro wq hq; go_simp; try with_reducible rfl)
  simp only [Act.put, List.getElem_toArray, List.getElem_cons_zero, List.getElem_cons_succ, List.setIfInBounds_toArray, List.set_cons_zero, List.set_cons_succ]
  refine AnyU.ready1 (i := 2) (by kernel_rfl) (AnyU.one rfl fun K hK => ?_)
  go_simp
  go_at_call 62
  refine (KA.out _).mono ?_
  rintro e wd ⟨rfl, hbd⟩
  have HB := Lib.hid (acc0 HB.out HB.out.size hbd)
  have HX := Lib.hid (HX.out.under hbd HX.out.lt)
  clear hbd
  refine hK.out _ _ (Until.cons (fun h => absurd h (by decide)) (Until.cons (fun _ => HX.out.cell 1) (Until.cons (fun _ => HX.out.cell 2) Until.nil))) (fun hU => ?_)
  clear hK K
  try simp only [Act.put, List.getElem_toArray, List.getElem_cons_zero, List.getElem_cons_succ, List.setIfInBounds_toArray, List.set_cons_zero, List.set_cons_succ]
  refine AnyU.take (i := 3) (v := ?_) rfl (by kernel_rfl) (by kernel_rfl) (by kernel_rfl) (fun _ _ _ h => h) (by kernel_rfl) (by assumption) (by rfl) ?_ (fun hU => ?_)
  rotate_left 1
  · (intro wq; go_simp; try with_reducible rfl)
  simp only [Act.put, List.getElem_toArray, List.getElem_cons_zero, List.getElem_cons_succ, List.setIfInBounds_toArray, List.set_cons_zero, List.set_cons_succ]
  refine AnyU.ready1 (i := 6) (by kernel_rfl) (AnyU.one rfl fun K hK => ?_)
  go_simp
  go_at_call 62
  refine (KB.out _).mono ?_
  rintro e wd ⟨rfl, hbd⟩
  have HB := Lib.hid (acc0 HB.out HB.out.size hbd)
  have HX := Lib.hid (HX.out.under hbd HX.out.lt)
  clear hbd
  refine hK.out _ _ (Until.cons (fun h => absurd h (by decide)) (Until.cons (fun h => absurd h (by decide)) (Until.cons (fun _ => HX.out.cell 2) Until.nil))) (fun hU => ?_)
  clear hK K
  try simp only [Act.put, List.getElem_toArray, List.getElem_cons_zero, List.getElem_cons_succ, List.setIfInBounds_toArray, List.set_cons_zero, List.set_cons_succ]
  refine AnyU.take (i := 7) (v := ?_) rfl (by kernel_rfl) (by kernel_rfl) (by kernel_rfl) (fun _ _ _ h => h) (by kernel_rfl) (by assumption) (by rfl) ?_ (fun hU => ?_)
  rotate_left 1
  · (intro wq; go_simp; try with_reducible rfl)
  simp only [Act.put, List.getElem_toArray, List.getElem_cons_zero, List.getElem_cons_succ, List.setIfInBounds_toArray, List.set_cons_zero, List.set_cons_succ]
  refine AnyU.take (i := 8) (v := ?_) rfl (by kernel_rfl) (by kernel_rfl) (by kernel_rfl) (fun _ _ _ h => h) (by kernel_rfl) (by assumption) (by rfl) ?_ (fun hU => ?_)
  rotate_left 1
  · (intro wq; go_simp; try with_reducible rfl)
  simp only [Act.put, List.getElem_toArray, List.getElem_cons_zero, List.getElem_cons_succ, List.setIfInBounds_toArray, List.set_cons_zero, List.set_cons_succ]
  refine AnyU.ready1 (i := 11) (by kernel_rfl) (AnyU.one rfl fun K hK => ?_)
  go_simp
  go_at_call 62
  refine (KC.out _).mono ?_
  rintro e wd ⟨rfl, hbd⟩
  have HB := Lib.hid (acc0 HB.out HB.out.size hbd)
  have HX := Lib.hid (HX.out.under hbd HX.out.lt)
  clear hbd
  refine hK.out _ _ (Until.cons (fun h => absurd h (by decide)) (Until.cons (fun h => absurd h (by decide)) (Until.cons (fun h => absurd h (by decide)) Until.nil))) (fun hU => ?_)
  clear hK K
  try simp only [Act.put, List.getElem_toArray, List.getElem_cons_zero, List.getElem_cons_succ, List.setIfInBounds_toArray, List.set_cons_zero, List.set_cons_succ]
  refine AnyU.take (i := 12) (v := ?_) rfl (by kernel_rfl) (by kernel_rfl) (by kernel_rfl) (fun _ _ _ h => h) (by kernel_rfl) (by assumption) (by rfl) ?_ (fun hU => ?_)
  rotate_left 1
  · (intro wq; go_simp; try with_reducible rfl)
  simp only [Act.put, List.getElem_toArray, List.getElem_cons_zero, List.getElem_cons_succ, List.setIfInBounds_toArray, List.set_cons_zero, List.set_cons_succ]
  refine AnyU.take (i := 13) (v := ?_) rfl (by kernel_rfl) (by kernel_rfl) (by kernel_rfl) (fun _ _ _ h => h) (by kernel_rfl) (by assumption) (by rfl) ?_ (fun hU => ?_)
  rotate_left 1
  · (intro wq; go_simp; try with_reducible rfl)
  simp only [Act.put, List.getElem_toArray, List.getElem_cons_zero, List.getElem_cons_succ, List.setIfInBounds_toArray, List.set_cons_zero, List.set_cons_succ]
  refine AnyU.done (by kernel_rfl) ?_
  go_wp2
  go_ret
  exact ⟨rfl, HB.out⟩
/-- what semver.Print tells -/
def prS (a b c : Int) : ByteArray := if mayB a b c then verS a b c else { data := #[] }
def prE (a b c : Int) : Int := if mayB a b c then 0 else 1
end Go.Proofs.YtlpgkldialmofaaGreatDoor
