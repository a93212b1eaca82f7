/- merlonlaw01.SemverRanges returns true; the premises: texts of less than 2147483640 bytes; the library's number MaxLen reads as some int; strconv's table is as the program lays it. -/
import Derived.Test.YtlpgkldialmofaaDoorRngP
import Derived.Test.YtlpgkldialmofaaDoorRegS
namespace Go.Proofs.YtlpgkldialmofaaDoor
open Go.RowKit
set_option linter.unusedSimpArgs false
set_option linter.unusedVariables false
set_option maxRecDepth 100000 in
set_option maxHeartbeats 16000000 in
theorem ranges_c (a1 a2 a3 b1 b2 b3 c1 c2 c3 : Int) (s t : ByteArray) (w : World) (hs : s.size < 2147483640) (ht2 : t.size < 2147483640) (hm : MaxW w) (ht : TabW w) : Calls Tryd.prog 5 #[.agg (rng a1 a2 a3 b1 b2 b3), .agg (ver c1 c2 c3), .string s, .string t] w fun e w' => e = .returned (.bool true) ∧ Below w.heap.size w w' := by
  have HM := Lib.hid hm
  have HT := Lib.hid ht
  clear hm ht
  go_enter Tryd.func5, Tryd.ntmps5
  simp only [rng, ver]
  go_upto_region 1 with fail
  have x0 := (Blk.new w #[.int .i64 a1, .int .i64 a2, .int .i64 a3, .int .i64 b1, .int .i64 b2, .int .i64 b3] 40).alloc (.cells #[.int .i64 c1, .int .i64 c2, .int .i64 c3] 23)
  have y0 := Blk.new (w.alloc (.cells #[.int .i64 a1, .int .i64 a2, .int .i64 a3, .int .i64 b1, .int .i64 b2, .int .i64 b3] 40)) #[.int .i64 c1, .int .i64 c2, .int .i64 c3] 23
  have hz : (w.alloc (.cells #[.int .i64 a1, .int .i64 a2, .int .i64 a3, .int .i64 b1, .int .i64 b2, .int .i64 b3] 40)).heap.size = w.heap.size + 1 := by simp
  rw [hz] at y0
  have xb := ((Below.refl w.heap.size w).alloc (Nat.le_refl _) (.cells #[.int .i64 a1, .int .i64 a2, .int .i64 a3, .int .i64 b1, .int .i64 b2, .int .i64 b3] 40)).alloc (by simp) (.cells #[.int .i64 c1, .int .i64 c2, .int .i64 c3] 23)
  generalize ((w.alloc (.cells #[.int .i64 a1, .int .i64 a2, .int .i64 a3, .int .i64 b1, .int .i64 b2, .int .i64 b3] 40)).alloc (.cells #[.int .i64 c1, .int .i64 c2, .int .i64 c3] 23)) = W at x0 y0 xb ⊢
  have BR := Lib.hid x0
  have BV := Lib.hid y0
  have XB := Lib.hid xb
  have HMW := Lib.hid (HM.out.below xb)
  have HTW := Lib.hid (HT.out.below xb)
  clear x0 y0 xb hz HM HT
  go_wp2_with fail
  refine (sup_c W HMW.out).mono ?_
  rintro e w1 ⟨rfl, hb⟩
  have A1 := Lib.hid hb
  clear hb
  obtain ⟨k0, k1, k2, k3, k4, k5⟩ := cells6 (BR.out.under A1.out BR.out.lt)
  have lk := (BR.out.under A1.out BR.out.lt).lt
  go_wp2_with fail
  obtain ⟨P, hP⟩ : ∃ P, prR a1 a2 a3 b1 b2 b3 = P := ⟨_, rfl⟩
  obtain ⟨E, hE⟩ : ∃ P, prRE a1 a2 a3 b1 b2 b3 = P := ⟨_, rfl⟩
  have hpr := printR_c a1 a2 a3 b1 b2 b3 w1 (HTW.out.below A1.out)
  rw [hP, hE] at hpr
  have HP := Lib.hid hP
  have HE := Lib.hid hE
  clear hP hE
  refine hpr.mono ?_
  rintro e w2 ⟨rfl, hb⟩
  have A2 := Lib.hid (A1.out.trans (hb.mono A1.out.size))
  clear hb hpr k0 k1 k2 k3 k4 k5 lk
  obtain ⟨k0, k1, k2, k3, k4, k5⟩ := cells6 (BR.out.under A2.out BR.out.lt)
  have lk := (BR.out.under A2.out BR.out.lt).lt
  obtain ⟨m, hm⟩ : ∃ m, rangeB a1 a2 a3 b1 b2 b3 = m := ⟨_, rfl⟩
  obtain ⟨i, hi⟩ : ∃ m, inB a1 a2 a3 b1 b2 b3 c1 c2 c3 = m := ⟨_, rfl⟩
  have C1 := fun w => semRange_c a1 a2 a3 b1 b2 b3 w
  have C2 := fun w => refRange_c a1 a2 a3 b1 b2 b3 w
  have C3 := fun w => semIn_c a1 a2 a3 b1 b2 b3 c1 c2 c3 w
  have C4 := fun w => refIn_c a1 a2 a3 b1 b2 b3 c1 c2 c3 w
  simp only [hm, rng] at C1 C2
  simp only [hi, rng, ver] at C3 C4
  have H1 := Lib.hid C1
  have H2 := Lib.hid C2
  have H3 := Lib.hid C3
  have H4 := Lib.hid C4
  have HRB := Lib.hid hm
  clear C1 C2 C3 C4 hm hi
  go_upto_region 4 with (go_at_call 17; refine (H2.out _).mono ?_; rintro e w3 ⟨rfl, hb⟩; have A3 := Lib.hid (A2.out.trans (hb.mono A2.out.size)); clear hb k0 k1 k2 k3 k4 k5 lk)
  go_cut [40] (fun v wx => v = .bool false ∧ Below W.heap.size W wx)
  case first =>
    refine wp_region_until [(1, fun w' => Blk w' w.heap.size #[.int .i64 a1, .int .i64 a2, .int .i64 a3, .int .i64 b1, .int .i64 b2, .int .i64 b3] 40), (7, fun w' => Blk w' w.heap.size #[.int .i64 a1, .int .i64 a2, .int .i64 a3, .int .i64 b1, .int .i64 b2, .int .i64 b3] 40), (7, fun w' => Blk w' (w.heap.size + 1) #[.int .i64 c1, .int .i64 c2, .int .i64 c3] 23), (10, fun w' => Blk w' w.heap.size #[.int .i64 a1, .int .i64 a2, .int .i64 a3, .int .i64 b1, .int .i64 b2, .int .i64 b3] 40), (10, fun w' => Blk w' (w.heap.size + 1) #[.int .i64 c1, .int .i64 c2, .int .i64 c3] 23)] (by kernel_rfl) (Until.cons (fun _ => (BR.out.under A3.out BR.out.lt).drew) (Until.cons (fun _ => (BR.out.under A3.out BR.out.lt).drew) (Until.cons (fun _ => (BV.out.under A3.out BV.out.lt).drew) (Until.cons (fun _ => (BR.out.under A3.out BR.out.lt).drew) (Until.cons (fun _ => (BV.out.under A3.out BV.out.lt).drew) Until.nil))))) (fun hU => ?_)
    have A3d := Lib.hid A3.out.drew
    clear A3
    have A3 := A3d
    clear A3d
    refine AnyU.loadc (i := 0) (d := 1) [1] (Si := fun w' => Blk w' w.heap.size #[.int .i64 a1, .int .i64 a2, .int .i64 a3, .int .i64 b1, .int .i64 b2, .int .i64 b3] 40) (v := ?_) rfl (by kernel_rfl) (by kernel_rfl) (by kernel_rfl) (fun _ _ _ h => h) (by kernel_rfl) (by assumption) (by kernel_rfl) rfl (by simp) (by rfl) ?_ (fun hV => ?_)
    rotate_left 1
    · (intro wq hq; obtain ⟨u0, u1, u2, u3, u4, u5⟩ := cells6 hq; go_simp; try with_reducible rfl)
    clear hU
    have hU := hV
    clear hV
    try simp only [Act.put, List.getElem_toArray, List.getElem_cons_zero, List.getElem_cons_succ, List.setIfInBounds_toArray, List.set_cons_zero, List.set_cons_succ]
    refine AnyU.take (i := 2) (v := ?_) rfl (by kernel_rfl) (by kernel_rfl) (by kernel_rfl) (fun _ _ _ h => h) (by kernel_rfl) (by assumption) (by rfl) ?_ (fun hV => ?_)
    rotate_left 1
    · (intro wq; go_simp; try with_reducible rfl)
    clear hU
    have hU := hV
    clear hV
    try simp only [Act.put, List.getElem_toArray, List.getElem_cons_zero, List.getElem_cons_succ, List.setIfInBounds_toArray, List.set_cons_zero, List.set_cons_succ]
    refine AnyU.ready1 (i := 1) (by kernel_rfl) (AnyU.one rfl fun K hK => ?_)
    go_simp
    go_at_call 18
    refine (H1.out _).mono ?_
    rintro e w4 ⟨rfl, hb⟩
    have A4 := Lib.hid (A3.out.trans (hb.mono A3.out.size))
    clear hb
    refine hK.out _ _ (Until.cons (fun h => absurd h (by decide)) (Until.cons (fun _ => BR.out.under A4.out BR.out.lt) (Until.cons (fun _ => BV.out.under A4.out BV.out.lt) (Until.cons (fun _ => BR.out.under A4.out BR.out.lt) (Until.cons (fun _ => BV.out.under A4.out BV.out.lt) Until.nil))))) (fun hV => ?_)
    clear hK K
    clear hU
    have hU := hV
    clear hV
    try simp only [Act.put, List.getElem_toArray, List.getElem_cons_zero, List.getElem_cons_succ, List.setIfInBounds_toArray, List.set_cons_zero, List.set_cons_succ]
    refine AnyU.take (i := 3) (v := ?_) rfl (by kernel_rfl) (by kernel_rfl) (by kernel_rfl) (fun _ _ _ h => h) (by kernel_rfl) (by assumption) (by rfl) ?_ (fun hV => ?_)
    rotate_left 1
    · (intro wq; go_simp; try with_reducible rfl)
    clear hU
    have hU := hV
    clear hV
    try simp only [Act.put, List.getElem_toArray, List.getElem_cons_zero, List.getElem_cons_succ, List.setIfInBounds_toArray, List.set_cons_zero, List.set_cons_succ]
    refine AnyU.take (i := 4) (v := ?_) rfl (by kernel_rfl) (by kernel_rfl) (by kernel_rfl) (fun _ _ _ h => h) (by kernel_rfl) (by assumption) (by rfl) ?_ (fun hV => ?_)
    rotate_left 1
    · (intro wq; go_simp; try with_reducible rfl)
    clear hU
    have hU := hV
    clear hV
    try simp only [Act.put, List.getElem_toArray, List.getElem_cons_zero, List.getElem_cons_succ, List.setIfInBounds_toArray, List.set_cons_zero, List.set_cons_succ]
    refine AnyU.loadc (i := 5) (d := 7) [7] (Si := fun w' => Blk w' w.heap.size #[.int .i64 a1, .int .i64 a2, .int .i64 a3, .int .i64 b1, .int .i64 b2, .int .i64 b3] 40) (v := ?_) rfl (by kernel_rfl) (by kernel_rfl) (by kernel_rfl) (fun _ _ _ h => h) (by kernel_rfl) (by assumption) (by kernel_rfl) rfl (by simp) (by rfl) ?_ (fun hV => ?_)
    rotate_left 1
    · (intro wq hq; obtain ⟨u0, u1, u2, u3, u4, u5⟩ := cells6 hq; go_simp; try with_reducible rfl)
    clear hU
    have hU := hV
    clear hV
    try simp only [Act.put, List.getElem_toArray, List.getElem_cons_zero, List.getElem_cons_succ, List.setIfInBounds_toArray, List.set_cons_zero, List.set_cons_succ]
    refine AnyU.loadc (i := 6) (d := 7) [7] (Si := fun w' => Blk w' (w.heap.size + 1) #[.int .i64 c1, .int .i64 c2, .int .i64 c3] 23) (v := ?_) rfl (by kernel_rfl) (by kernel_rfl) (by kernel_rfl) (fun _ _ _ h => h) (by kernel_rfl) (by assumption) (by kernel_rfl) rfl (by simp) (by rfl) ?_ (fun hV => ?_)
    rotate_left 1
    · (intro wq hq; obtain ⟨u0, u1, u2⟩ := cells3 hq; go_simp; try with_reducible rfl)
    clear hU
    have hU := hV
    clear hV
    try simp only [Act.put, List.getElem_toArray, List.getElem_cons_zero, List.getElem_cons_succ, List.setIfInBounds_toArray, List.set_cons_zero, List.set_cons_succ]
    refine AnyU.loadc (i := 8) (d := 10) [10] (Si := fun w' => Blk w' w.heap.size #[.int .i64 a1, .int .i64 a2, .int .i64 a3, .int .i64 b1, .int .i64 b2, .int .i64 b3] 40) (v := ?_) rfl (by kernel_rfl) (by kernel_rfl) (by kernel_rfl) (fun _ _ _ h => h) (by kernel_rfl) (by assumption) (by kernel_rfl) rfl (by simp) (by rfl) ?_ (fun hV => ?_)
    rotate_left 1
    · (intro wq hq; obtain ⟨u0, u1, u2, u3, u4, u5⟩ := cells6 hq; go_simp; try with_reducible rfl)
    clear hU
    have hU := hV
    clear hV
    try simp only [Act.put, List.getElem_toArray, List.getElem_cons_zero, List.getElem_cons_succ, List.setIfInBounds_toArray, List.set_cons_zero, List.set_cons_succ]
    refine AnyU.loadc (i := 9) (d := 10) [10] (Si := fun w' => Blk w' (w.heap.size + 1) #[.int .i64 c1, .int .i64 c2, .int .i64 c3] 23) (v := ?_) rfl (by kernel_rfl) (by kernel_rfl) (by kernel_rfl) (fun _ _ _ h => h) (by kernel_rfl) (by assumption) (by kernel_rfl) rfl (by simp) (by rfl) ?_ (fun hV => ?_)
    rotate_left 1
    · (intro wq hq; obtain ⟨u0, u1, u2⟩ := cells3 hq; go_simp; try with_reducible rfl)
    clear hU
    have hU := hV
    clear hV
    try simp only [Act.put, List.getElem_toArray, List.getElem_cons_zero, List.getElem_cons_succ, List.setIfInBounds_toArray, List.set_cons_zero, List.set_cons_succ]
    refine AnyU.ready1 (i := 7) (by kernel_rfl) (AnyU.one rfl fun K hK => ?_)
    go_simp
    go_at_call 19
    refine (H3.out _).mono ?_
    rintro e w5 ⟨rfl, hb⟩
    have A5 := Lib.hid (A4.out.trans (hb.mono A4.out.size))
    clear hb
    refine hK.out _ _ (Until.cons (fun h => absurd h (by decide)) (Until.cons (fun h => absurd h (by decide)) (Until.cons (fun h => absurd h (by decide)) (Until.cons (fun _ => BR.out.under A5.out BR.out.lt) (Until.cons (fun _ => BV.out.under A5.out BV.out.lt) Until.nil))))) (fun hV => ?_)
    clear hK K
    clear hU
    have hU := hV
    clear hV
    try simp only [Act.put, List.getElem_toArray, List.getElem_cons_zero, List.getElem_cons_succ, List.setIfInBounds_toArray, List.set_cons_zero, List.set_cons_succ]
    refine AnyU.ready1 (i := 10) (by kernel_rfl) (AnyU.one rfl fun K hK => ?_)
    go_simp
    go_at_call 20
    refine (H4.out _).mono ?_
    rintro e w6 ⟨rfl, hb⟩
    have A6 := Lib.hid (A5.out.trans (hb.mono A5.out.size))
    clear hb
    refine hK.out _ _ (Until.cons (fun h => absurd h (by decide)) (Until.cons (fun h => absurd h (by decide)) (Until.cons (fun h => absurd h (by decide)) (Until.cons (fun h => absurd h (by decide)) (Until.cons (fun h => absurd h (by decide)) Until.nil))))) (fun hV => ?_)
    clear hK K
    clear hU
    have hU := hV
    clear hV
    try simp only [Act.put, List.getElem_toArray, List.getElem_cons_zero, List.getElem_cons_succ, List.setIfInBounds_toArray, List.set_cons_zero, List.set_cons_succ]
    refine AnyU.take (i := 11) (v := ?_) rfl (by kernel_rfl) (by kernel_rfl) (by kernel_rfl) (fun _ _ _ h => h) (by kernel_rfl) (by assumption) (by rfl) ?_ (fun hV => ?_)
    rotate_left 1
    · (intro wq; go_simp; try with_reducible rfl)
    clear hU
    have hU := hV
    clear hV
    try simp only [Act.put, List.getElem_toArray, List.getElem_cons_zero, List.getElem_cons_succ, List.setIfInBounds_toArray, List.set_cons_zero, List.set_cons_succ]
    refine AnyU.take (i := 12) (v := ?_) rfl (by kernel_rfl) (by kernel_rfl) (by kernel_rfl) (fun _ _ _ h => h) (by kernel_rfl) (by assumption) (by rfl) ?_ (fun hV => ?_)
    rotate_left 1
    · (intro wq; go_simp; try with_reducible rfl)
    clear hU
    have hU := hV
    clear hV
    try simp only [Act.put, List.getElem_toArray, List.getElem_cons_zero, List.getElem_cons_succ, List.setIfInBounds_toArray, List.set_cons_zero, List.set_cons_succ]
    refine AnyU.done (by kernel_rfl) ?_
    go_wp2_with fail
    go_meet
    exact ⟨by first | rfl | simp, A6.out⟩
  case rest =>
  obtain ⟨rfl, hcb⟩ := hcut
  have A7 := Lib.hid hcb
  clear hcb A3
  go_upto_region 6 with fail
  go_cut [10, 11, 12, 70] (fun _ _ _ v wx => v = .bool false ∧ Below W.heap.size W wx)
  case first =>
    cases m
    · have e1 : P = { data := #[] } := by rw [← HP.out, prR, HRB.out]; rfl
      have e2 : E = 1 := by rw [← HE.out, prRE, HRB.out]; rfl
      subst e1 e2
      rw [errV_1]
      have n1 := neq_err1
      go_quiet (fail)
      go_wp2_with fail
      go_meet
      exact ⟨rfl, below_drewN A7.out _⟩
    · have e1 : P = rngS a1 a2 a3 b1 b2 b3 := by rw [← HP.out, prR, HRB.out]; rfl
      have e2 : E = 0 := by rw [← HE.out, prRE, HRB.out]; rfl
      subst e2
      rw [errV_0]
      have hmm := range_may HRB.out
      have C5 := fun w => refPrint_c a1 a2 a3 w hmm.1
      have C6 := fun w => refPrint_c b1 b2 b3 w hmm.2
      have s1 := verS_size hmm.1
      have s2 := verS_size hmm.2
      obtain ⟨X, hX⟩ : ∃ X, verS a1 a2 a3 = X := ⟨_, rfl⟩
      obtain ⟨Y, hY⟩ : ∃ X, verS b1 b2 b3 = X := ⟨_, rfl⟩
      rw [rngS, hX, hY] at e1
      rw [hX] at s1
      rw [hY] at s2
      simp only [hX, ver] at C5
      simp only [hY, ver] at C6
      have H5 := Lib.hid C5
      have H6 := Lib.hid C6
      have z1 : ¬ 9223372036854775807 < X.size + 2 := by omega
      have z2 : ¬ 9223372036854775807 < X.size + 2 + Y.size := by omega
      subst e1
      clear C5 C6 hX hY hmm s1 s2
      refine wp_region_until [(8, fun w' => Blk w' w.heap.size #[.int .i64 a1, .int .i64 a2, .int .i64 a3, .int .i64 b1, .int .i64 b2, .int .i64 b3] 40), (12, fun w' => Blk w' w.heap.size #[.int .i64 a1, .int .i64 a2, .int .i64 a3, .int .i64 b1, .int .i64 b2, .int .i64 b3] 40)] (by kernel_rfl) (Until.cons (fun _ => (BR.out.under A7.out BR.out.lt).drew) (Until.cons (fun _ => (BR.out.under A7.out BR.out.lt).drew) Until.nil)) (fun hU => ?_)
      have A7d := Lib.hid A7.out.drew
      clear A7
      have A7 := A7d
      clear A7d
      refine AnyU.take (i := 0) (v := ?_) rfl (by kernel_rfl) (by kernel_rfl) (by kernel_rfl) (fun _ _ _ h => h) (by kernel_rfl) (by assumption) (by rfl) ?_ (fun hV => ?_)
      rotate_left 1
      · (intro wq; go_simp; try with_reducible rfl)
      clear hU
      have hU := hV
      clear hV
      try simp only [Act.put, List.getElem_toArray, List.getElem_cons_zero, List.getElem_cons_succ, List.setIfInBounds_toArray, List.set_cons_zero, List.set_cons_succ]
      refine AnyU.take (i := 1) (v := ?_) rfl (by kernel_rfl) (by kernel_rfl) (by kernel_rfl) (fun _ _ _ h => h) (by kernel_rfl) (by assumption) (by rfl) ?_ (fun hV => ?_)
      rotate_left 1
      · (intro wq; go_simp; try with_reducible rfl)
      clear hU
      have hU := hV
      clear hV
      try simp only [Act.put, List.getElem_toArray, List.getElem_cons_zero, List.getElem_cons_succ, List.setIfInBounds_toArray, List.set_cons_zero, List.set_cons_succ]
      refine AnyU.take (i := 2) (v := ?_) rfl (by kernel_rfl) (by kernel_rfl) (by kernel_rfl) (fun _ _ _ h => h) (by kernel_rfl) (by assumption) (by rfl) ?_ (fun hV => ?_)
      rotate_left 1
      · (intro wq; go_simp; try with_reducible rfl)
      clear hU
      have hU := hV
      clear hV
      try simp only [Act.put, List.getElem_toArray, List.getElem_cons_zero, List.getElem_cons_succ, List.setIfInBounds_toArray, List.set_cons_zero, List.set_cons_succ]
      refine AnyU.take (i := 3) (v := ?_) rfl (by kernel_rfl) (by kernel_rfl) (by kernel_rfl) (fun _ _ _ h => h) (by kernel_rfl) (by assumption) (by rfl) ?_ (fun hV => ?_)
      rotate_left 1
      · (intro wq; go_simp; try with_reducible rfl)
      clear hU
      have hU := hV
      clear hV
      try simp only [Act.put, List.getElem_toArray, List.getElem_cons_zero, List.getElem_cons_succ, List.setIfInBounds_toArray, List.set_cons_zero, List.set_cons_succ]
      refine AnyU.take (i := 4) (v := ?_) rfl (by kernel_rfl) (by kernel_rfl) (by kernel_rfl) (fun _ _ _ h => h) (by kernel_rfl) (by assumption) (by rfl) ?_ (fun hV => ?_)
      rotate_left 1
      · (intro wq; go_simp; try with_reducible rfl)
      clear hU
      have hU := hV
      clear hV
      try simp only [Act.put, List.getElem_toArray, List.getElem_cons_zero, List.getElem_cons_succ, List.setIfInBounds_toArray, List.set_cons_zero, List.set_cons_succ]
      refine AnyU.take (i := 5) (v := ?_) rfl (by kernel_rfl) (by kernel_rfl) (by kernel_rfl) (fun _ _ _ h => h) (by kernel_rfl) (by assumption) (by rfl) ?_ (fun hV => ?_)
      rotate_left 1
      · (intro wq; go_simp; try with_reducible rfl)
      clear hU
      have hU := hV
      clear hV
      try simp only [Act.put, List.getElem_toArray, List.getElem_cons_zero, List.getElem_cons_succ, List.setIfInBounds_toArray, List.set_cons_zero, List.set_cons_succ]
      refine AnyU.take (i := 6) (v := ?_) rfl (by kernel_rfl) (by kernel_rfl) (by kernel_rfl) (fun _ _ _ h => h) (by kernel_rfl) (by assumption) (by rfl) ?_ (fun hV => ?_)
      rotate_left 1
      · (intro wq; go_simp; try with_reducible rfl)
      clear hU
      have hU := hV
      clear hV
      try simp only [Act.put, List.getElem_toArray, List.getElem_cons_zero, List.getElem_cons_succ, List.setIfInBounds_toArray, List.set_cons_zero, List.set_cons_succ]
      refine AnyU.loadc (i := 7) (d := 8) [8] (Si := fun w' => Blk w' w.heap.size #[.int .i64 a1, .int .i64 a2, .int .i64 a3, .int .i64 b1, .int .i64 b2, .int .i64 b3] 40) (v := ?_) rfl (by kernel_rfl) (by kernel_rfl) (by kernel_rfl) (fun _ _ _ h => h) (by kernel_rfl) (by assumption) (by kernel_rfl) rfl (by simp) (by rfl) ?_ (fun hV => ?_)
      rotate_left 1
      · (intro wq hq; obtain ⟨u0, u1, u2, u3, u4, u5⟩ := cells6 hq; go_simp; try with_reducible rfl)
      clear hU
      have hU := hV
      clear hV
      try simp only [Act.put, List.getElem_toArray, List.getElem_cons_zero, List.getElem_cons_succ, List.setIfInBounds_toArray, List.set_cons_zero, List.set_cons_succ]
      refine AnyU.take (i := 10) (v := ?_) rfl (by kernel_rfl) (by kernel_rfl) (by kernel_rfl) (fun _ _ _ h => h) (by kernel_rfl) (by assumption) (by rfl) ?_ (fun hV => ?_)
      rotate_left 1
      · (intro wq; go_simp; try with_reducible rfl)
      clear hU
      have hU := hV
      clear hV
      try simp only [Act.put, List.getElem_toArray, List.getElem_cons_zero, List.getElem_cons_succ, List.setIfInBounds_toArray, List.set_cons_zero, List.set_cons_succ]
      refine AnyU.loadc (i := 11) (d := 12) [12] (Si := fun w' => Blk w' w.heap.size #[.int .i64 a1, .int .i64 a2, .int .i64 a3, .int .i64 b1, .int .i64 b2, .int .i64 b3] 40) (v := ?_) rfl (by kernel_rfl) (by kernel_rfl) (by kernel_rfl) (fun _ _ _ h => h) (by kernel_rfl) (by assumption) (by kernel_rfl) rfl (by simp) (by rfl) ?_ (fun hV => ?_)
      rotate_left 1
      · (intro wq hq; obtain ⟨u0, u1, u2, u3, u4, u5⟩ := cells6 hq; go_simp; try with_reducible rfl)
      clear hU
      have hU := hV
      clear hV
      try simp only [Act.put, List.getElem_toArray, List.getElem_cons_zero, List.getElem_cons_succ, List.setIfInBounds_toArray, List.set_cons_zero, List.set_cons_succ]
      refine AnyU.ready1 (i := 8) (by kernel_rfl) (AnyU.one rfl fun K hK => ?_)
      go_simp
      go_at_call 11
      refine (H5.out _).mono ?_
      rintro e w8 ⟨rfl, hb⟩
      have A8 := Lib.hid (A7.out.trans (hb.mono A7.out.size))
      clear hb
      refine hK.out _ _ (Until.cons (fun h => absurd h (by decide)) (Until.cons (fun _ => BR.out.under A8.out BR.out.lt) Until.nil)) (fun hV => ?_)
      clear hK K
      clear hU
      have hU := hV
      clear hV
      try simp only [Act.put, List.getElem_toArray, List.getElem_cons_zero, List.getElem_cons_succ, List.setIfInBounds_toArray, List.set_cons_zero, List.set_cons_succ]
      refine AnyU.take (i := 9) (v := ?_) rfl (by kernel_rfl) (by kernel_rfl) (by kernel_rfl) (fun _ _ _ h => h) (by kernel_rfl) (by assumption) (by rfl) ?_ (fun hV => ?_)
      rotate_left 1
      · (intro wq; go_simp; try with_reducible rfl)
      clear hU
      have hU := hV
      clear hV
      try simp only [Act.put, List.getElem_toArray, List.getElem_cons_zero, List.getElem_cons_succ, List.setIfInBounds_toArray, List.set_cons_zero, List.set_cons_succ]
      refine AnyU.ready1 (i := 12) (by kernel_rfl) (AnyU.one rfl fun K hK => ?_)
      go_simp
      go_at_call 11
      refine (H6.out _).mono ?_
      rintro e w9 ⟨rfl, hb⟩
      have A9 := Lib.hid (A8.out.trans (hb.mono A8.out.size))
      clear hb
      refine hK.out _ _ (Until.cons (fun h => absurd h (by decide)) (Until.cons (fun h => absurd h (by decide)) Until.nil)) (fun hV => ?_)
      clear hK K
      clear hU
      have hU := hV
      clear hV
      try simp only [Act.put, List.getElem_toArray, List.getElem_cons_zero, List.getElem_cons_succ, List.setIfInBounds_toArray, List.set_cons_zero, List.set_cons_succ]
      refine AnyU.take (i := 13) (v := ?_) rfl (by kernel_rfl) (by kernel_rfl) (by kernel_rfl) (fun _ _ _ h => h) (by kernel_rfl) (by assumption) (by rfl) ?_ (fun hV => ?_)
      rotate_left 1
      · (intro wq; go_simp; try with_reducible rfl)
      clear hU
      have hU := hV
      clear hV
      try simp only [Act.put, List.getElem_toArray, List.getElem_cons_zero, List.getElem_cons_succ, List.setIfInBounds_toArray, List.set_cons_zero, List.set_cons_succ]
      refine AnyU.take (i := 14) (v := ?_) rfl (by kernel_rfl) (by kernel_rfl) (by kernel_rfl) (fun _ _ _ h => h) (by kernel_rfl) (by assumption) (by rfl) ?_ (fun hV => ?_)
      rotate_left 1
      · (intro wq; go_simp; try with_reducible rfl)
      clear hU
      have hU := hV
      clear hV
      try simp only [Act.put, List.getElem_toArray, List.getElem_cons_zero, List.getElem_cons_succ, List.setIfInBounds_toArray, List.set_cons_zero, List.set_cons_succ]
      refine AnyU.take (i := 15) (v := ?_) rfl (by kernel_rfl) (by kernel_rfl) (by kernel_rfl) (fun _ _ _ h => h) (by kernel_rfl) (by assumption) (by rfl) ?_ (fun hV => ?_)
      rotate_left 1
      · (intro wq; go_simp; try with_reducible rfl)
      clear hU
      have hU := hV
      clear hV
      try simp only [Act.put, List.getElem_toArray, List.getElem_cons_zero, List.getElem_cons_succ, List.setIfInBounds_toArray, List.set_cons_zero, List.set_cons_succ]
      refine AnyU.take (i := 16) (v := ?_) rfl (by kernel_rfl) (by kernel_rfl) (by kernel_rfl) (fun _ _ _ h => h) (by kernel_rfl) (by assumption) (by rfl) ?_ (fun hV => ?_)
      rotate_left 1
      · (intro wq; go_simp; try with_reducible rfl)
      clear hU
      have hU := hV
      clear hV
      try simp only [Act.put, List.getElem_toArray, List.getElem_cons_zero, List.getElem_cons_succ, List.setIfInBounds_toArray, List.set_cons_zero, List.set_cons_succ]
      refine AnyU.take (i := 17) (v := ?_) rfl (by kernel_rfl) (by kernel_rfl) (by kernel_rfl) (fun _ _ _ h => h) (by kernel_rfl) (by assumption) (by rfl) ?_ (fun hV => ?_)
      rotate_left 1
      · (intro wq; go_simp; try with_reducible rfl)
      clear hU
      have hU := hV
      clear hV
      try simp only [Act.put, List.getElem_toArray, List.getElem_cons_zero, List.getElem_cons_succ, List.setIfInBounds_toArray, List.set_cons_zero, List.set_cons_succ]
      refine AnyU.take (i := 18) (v := ?_) rfl (by kernel_rfl) (by kernel_rfl) (by kernel_rfl) (fun _ _ _ h => h) (by kernel_rfl) (by assumption) (by rfl) ?_ (fun hV => ?_)
      rotate_left 1
      · (intro wq; go_simp; try with_reducible rfl)
      clear hU
      have hU := hV
      clear hV
      try simp only [Act.put, List.getElem_toArray, List.getElem_cons_zero, List.getElem_cons_succ, List.setIfInBounds_toArray, List.set_cons_zero, List.set_cons_succ]
      refine AnyU.take (i := 19) (v := ?_) rfl (by kernel_rfl) (by kernel_rfl) (by kernel_rfl) (fun _ _ _ h => h) (by kernel_rfl) (by assumption) (by rfl) ?_ (fun hV => ?_)
      rotate_left 1
      · (intro wq; go_simp; try with_reducible rfl)
      clear hU
      have hU := hV
      clear hV
      try simp only [Act.put, List.getElem_toArray, List.getElem_cons_zero, List.getElem_cons_succ, List.setIfInBounds_toArray, List.set_cons_zero, List.set_cons_succ]
      refine AnyU.take (i := 20) (v := ?_) rfl (by kernel_rfl) (by kernel_rfl) (by kernel_rfl) (fun _ _ _ h => h) (by kernel_rfl) (by assumption) (by rfl) ?_ (fun hV => ?_)
      rotate_left 1
      · (intro wq; go_simp; try with_reducible rfl)
      clear hU
      have hU := hV
      clear hV
      try simp only [Act.put, List.getElem_toArray, List.getElem_cons_zero, List.getElem_cons_succ, List.setIfInBounds_toArray, List.set_cons_zero, List.set_cons_succ]
      refine AnyU.skip (i := 21) rfl (by kernel_rfl) (by kernel_rfl) (by kernel_rfl) (fun _ _ _ h => h) (by kernel_rfl) (by assumption) (by rfl) (fun hV => ?_)
      clear hU
      have hU := hV
      clear hV
      try simp only [Act.put, List.getElem_toArray, List.getElem_cons_zero, List.getElem_cons_succ, List.setIfInBounds_toArray, List.set_cons_zero, List.set_cons_succ]
      refine AnyU.skip (i := 22) rfl (by kernel_rfl) (by kernel_rfl) (by kernel_rfl) (fun _ _ _ h => h) (by kernel_rfl) (by assumption) (by rfl) (fun hV => ?_)
      clear hU
      have hU := hV
      clear hV
      try simp only [Act.put, List.getElem_toArray, List.getElem_cons_zero, List.getElem_cons_succ, List.setIfInBounds_toArray, List.set_cons_zero, List.set_cons_succ]
      refine AnyU.skip (i := 23) rfl (by kernel_rfl) (by kernel_rfl) (by kernel_rfl) (fun _ _ _ h => h) (by kernel_rfl) (by assumption) (by rfl) (fun hV => ?_)
      clear hU
      have hU := hV
      clear hV
      try simp only [Act.put, List.getElem_toArray, List.getElem_cons_zero, List.getElem_cons_succ, List.setIfInBounds_toArray, List.set_cons_zero, List.set_cons_succ]
      refine AnyU.skip (i := 24) rfl (by kernel_rfl) (by kernel_rfl) (by kernel_rfl) (fun _ _ _ h => h) (by kernel_rfl) (by assumption) (by rfl) (fun hV => ?_)
      clear hU
      have hU := hV
      clear hV
      try simp only [Act.put, List.getElem_toArray, List.getElem_cons_zero, List.getElem_cons_succ, List.setIfInBounds_toArray, List.set_cons_zero, List.set_cons_succ]
      refine AnyU.skip (i := 25) rfl (by kernel_rfl) (by kernel_rfl) (by kernel_rfl) (fun _ _ _ h => h) (by kernel_rfl) (by assumption) (by rfl) (fun hV => ?_)
      clear hU
      have hU := hV
      clear hV
      try simp only [Act.put, List.getElem_toArray, List.getElem_cons_zero, List.getElem_cons_succ, List.setIfInBounds_toArray, List.set_cons_zero, List.set_cons_succ]
      refine AnyU.skip (i := 26) rfl (by kernel_rfl) (by kernel_rfl) (by kernel_rfl) (fun _ _ _ h => h) (by kernel_rfl) (by assumption) (by rfl) (fun hV => ?_)
      clear hU
      have hU := hV
      clear hV
      try simp only [Act.put, List.getElem_toArray, List.getElem_cons_zero, List.getElem_cons_succ, List.setIfInBounds_toArray, List.set_cons_zero, List.set_cons_succ]
      refine AnyU.skip (i := 27) rfl (by kernel_rfl) (by kernel_rfl) (by kernel_rfl) (fun _ _ _ h => h) (by kernel_rfl) (by assumption) (by rfl) (fun hV => ?_)
      clear hU
      have hU := hV
      clear hV
      try simp only [Act.put, List.getElem_toArray, List.getElem_cons_zero, List.getElem_cons_succ, List.setIfInBounds_toArray, List.set_cons_zero, List.set_cons_succ]
      refine AnyU.take (i := 28) (v := ?_) rfl (by kernel_rfl) (by kernel_rfl) (by kernel_rfl) (fun _ _ _ h => h) (by kernel_rfl) (by assumption) (by rfl) ?_ (fun hV => ?_)
      rotate_left 1
      · (intro wq; go_simp; try with_reducible rfl)
      clear hU
      have hU := hV
      clear hV
      try simp only [Act.put, List.getElem_toArray, List.getElem_cons_zero, List.getElem_cons_succ, List.setIfInBounds_toArray, List.set_cons_zero, List.set_cons_succ]
      refine AnyU.take (i := 29) (v := ?_) rfl (by kernel_rfl) (by kernel_rfl) (by kernel_rfl) (fun _ _ _ h => h) (by kernel_rfl) (by assumption) (by rfl) ?_ (fun hV => ?_)
      rotate_left 1
      · (intro wq; go_simp; try with_reducible rfl)
      clear hU
      have hU := hV
      clear hV
      try simp only [Act.put, List.getElem_toArray, List.getElem_cons_zero, List.getElem_cons_succ, List.setIfInBounds_toArray, List.set_cons_zero, List.set_cons_succ]
      refine AnyU.done (by kernel_rfl) ?_
      go_wp2_with fail
      go_meet
      exact ⟨by first | rfl | simp, A9.out⟩
  case rest =>
  obtain ⟨rfl, hcb⟩ := hcut
  have A8 := Lib.hid hcb
  clear hcb A7 H1 H2 H3 H4
  obtain ⟨S, hS⟩ : ∃ S, s ++ { data := #[46, 46] } ++ t = S := ⟨_, rfl⟩
  have hSd : S.data.toList = s.data.toList ++ 46 :: 46 :: t.data.toList := by rw [← hS]; simp
  have hSs : S.size = s.size + 2 + t.size := by
    rw [← hS]
    simp only [ByteArray.size_append]
    rfl
  have z1 : ¬ 9223372036854775807 < s.size + 2 := by omega
  have z2 : ¬ 9223372036854775807 < s.size + 2 + t.size := by omega
  have hrb := range_both okR s.data.toList t.data.toList
  rw [← hSd] at hrb
  obtain ⟨R, hR⟩ : ∃ R, parR S.data.toList = R := ⟨_, rfl⟩
  obtain ⟨F, hF⟩ : ∃ R, parRE S.data.toList = R := ⟨_, rfl⟩
  obtain ⟨V, hV⟩ : ∃ R, parV s.data.toList = R := ⟨_, rfl⟩
  obtain ⟨U, hU⟩ : ∃ R, parV t.data.toList = R := ⟨_, rfl⟩
  obtain ⟨o1, ho1⟩ : ∃ R, (parseF s.data.toList).isSome = R := ⟨_, rfl⟩
  obtain ⟨o2, ho2⟩ : ∃ R, (parseF t.data.toList).isSome = R := ⟨_, rfl⟩
  have C1 := fun w hm => parseR_c S w (by omega) hm
  have C2 := fun w => refParse_c s w
  have C3 := fun w => refParse_c t w
  simp only [hR, hF] at C1
  simp only [hV, ho1] at C2
  simp only [hU, ho2] at C3
  have hbad : (o1 && (o2 && okR V U)) = false → R = ((0, 0, 0), (0, 0, 0)) ∧ F = 2 := by
    intro h
    rw [← ho1, ← ho2, ← hV, ← hU, parV, parV] at h
    have hn : rangeF okR S.data.toList = none := by
      rw [hrb, bothF]
      cases h1 : parseF s.data.toList with
      | none => rfl
      | some x =>
        cases h2 : parseF t.data.toList with
        | none => rfl
        | some y =>
          rw [h1, h2] at h
          simp at h
          simp [bothO, h]
    rw [← hR, ← hF, parR, parRE, hn]
    exact ⟨rfl, rfl⟩
  have hgood : (o1 && (o2 && okR V U)) = true → R = (V, U) ∧ F = 0 := by
    intro h
    rw [← ho1, ← ho2, ← hV, ← hU, parV, parV] at h
    have hn : rangeF okR S.data.toList = some (V, U) := by
      rw [hrb, bothF, ← hV, ← hU, parV, parV]
      cases h1 : parseF s.data.toList with
      | none => rw [h1] at h; cases h
      | some x =>
        cases h2 : parseF t.data.toList with
        | none => rw [h1, h2] at h; cases h
        | some y =>
          rw [h1, h2] at h
          simp at h
          simp [bothO, h]
    rw [← hR, ← hF, parR, parRE, hn]
    exact ⟨rfl, rfl⟩
  have HBAD := Lib.hid hbad
  have HGOOD := Lib.hid hgood
  have HS := Lib.hid hS
  obtain ⟨⟨r1, r2, r3⟩, ⟨r4, r5, r6⟩⟩ := R
  obtain ⟨x1, x2, x3⟩ := V
  obtain ⟨y1, y2, y3⟩ := U
  simp only [rng] at C1
  simp only [ver] at C2 C3
  have H1 := Lib.hid C1
  have H2 := Lib.hid C2
  have H3 := Lib.hid C3
  have hmr := fun w => refRange_c x1 x2 x3 y1 y2 y3 w
  obtain ⟨k, hk⟩ : ∃ k, rangeB x1 x2 x3 y1 y2 y3 = k := ⟨_, rfl⟩
  have hok : okR (x1, x2, x3) (y1, y2, y3) = k := hk
  rw [hok] at HBAD HGOOD
  simp only [hk, rng] at hmr
  have H4 := Lib.hid hmr
  clear hSd hSs hrb hR hF hV hU ho1 ho2 C1 C2 C3 hbad hgood hS hmr hk hok hs ht2
  go_upto_region 9 with (go_at_call 21; rw [HS.out]; refine (H1.out _ (HMW.out.below A8.out)).mono ?_; rintro e w9 ⟨rfl, hb⟩; have A9 := Lib.hid (A8.out.trans (hb.mono A8.out.size)); clear hb)
  have B1 := Lib.hid (Blk.new w9 #[.int .i64 r1, .int .i64 r2, .int .i64 r3, .int .i64 r4, .int .i64 r5, .int .i64 r6] 40)
  have A10 := Lib.hid (A9.out.alloc A9.out.size (.cells #[.int .i64 r1, .int .i64 r2, .int .i64 r3, .int .i64 r4, .int .i64 r5, .int .i64 r6] 40))
  generalize hw : w9.alloc (.cells #[.int .i64 r1, .int .i64 r2, .int .i64 r3, .int .i64 r4, .int .i64 r5, .int .i64 r6] 40) = w10 at A10 B1 ⊢
  clear hw
  generalize w9.heap.size = g1 at B1 ⊢
  go_upto_region 10 with (go_at_call 13; refine (H2.out _).mono ?_; rintro e w11 ⟨rfl, hb⟩; have A11 := Lib.hid (A10.out.trans (hb.mono A10.out.size)); have B11 := Lib.hid (B1.out.under hb B1.out.lt); clear hb)
  have B2 := Lib.hid (Blk.new w11 #[.int .i64 x1, .int .i64 x2, .int .i64 x3] 23)
  have A12 := Lib.hid (A11.out.alloc A11.out.size (.cells #[.int .i64 x1, .int .i64 x2, .int .i64 x3] 23))
  have B12 := Lib.hid (B11.out.alloc (.cells #[.int .i64 x1, .int .i64 x2, .int .i64 x3] 23))
  generalize hw : w11.alloc (.cells #[.int .i64 x1, .int .i64 x2, .int .i64 x3] 23) = w12 at A12 B12 B2 ⊢
  clear hw
  generalize w11.heap.size = g2 at B2 ⊢
  go_upto_region 11 with (go_at_call 13; refine (H3.out _).mono ?_; rintro e w13 ⟨rfl, hb⟩; have A13 := Lib.hid (A12.out.trans (hb.mono A12.out.size)); have B13 := Lib.hid (B12.out.under hb B12.out.lt); have B23 := Lib.hid (B2.out.under hb B2.out.lt); clear hb)
  have B3 := Lib.hid (Blk.new w13 #[.int .i64 y1, .int .i64 y2, .int .i64 y3] 23)
  have A14 := Lib.hid (A13.out.alloc A13.out.size (.cells #[.int .i64 y1, .int .i64 y2, .int .i64 y3] 23))
  have B14 := Lib.hid (B13.out.alloc (.cells #[.int .i64 y1, .int .i64 y2, .int .i64 y3] 23))
  have B24 := Lib.hid (B23.out.alloc (.cells #[.int .i64 y1, .int .i64 y2, .int .i64 y3] 23))
  generalize hw : w13.alloc (.cells #[.int .i64 y1, .int .i64 y2, .int .i64 y3] 23) = w14 at A14 B14 B24 B3 ⊢
  clear hw
  generalize w13.heap.size = g3 at B3 ⊢
  obtain ⟨p0, p1, p2⟩ := cells3 B24.out
  have lp := B24.out.lt
  obtain ⟨q0, q1, q2⟩ := cells3 B3.out
  have lq := B3.out.lt
  go_upto_region 12 with fail
  have B4 := Lib.hid (Blk.new w14 #[.int .i64 x1, .int .i64 x2, .int .i64 x3, .int .i64 y1, .int .i64 y2, .int .i64 y3] 40)
  have A15 := Lib.hid (A14.out.alloc A14.out.size (.cells #[.int .i64 x1, .int .i64 x2, .int .i64 x3, .int .i64 y1, .int .i64 y2, .int .i64 y3] 40))
  have B15 := Lib.hid (B14.out.alloc (.cells #[.int .i64 x1, .int .i64 x2, .int .i64 x3, .int .i64 y1, .int .i64 y2, .int .i64 y3] 40))
  generalize hw : w14.alloc (.cells #[.int .i64 x1, .int .i64 x2, .int .i64 x3, .int .i64 y1, .int .i64 y2, .int .i64 y3] 40) = w15 at A15 B15 B4 ⊢
  clear hw p0 p1 p2 lp q0 q1 q2 lq
  generalize w14.heap.size = g4 at B4 ⊢
  have n2 := eq_err2
  obtain ⟨d0, d1, d2, d3, d4, d5⟩ := cells6 B15.out
  have ld := B15.out.lt
  obtain ⟨e0, e1, e2, e3, e4, e5⟩ := cells6 B4.out
  have le := B4.out.lt
  cases o1
  · obtain ⟨hr, rfl⟩ := HBAD.out rfl
    injection hr with hr1 hr2
    simp only [Prod.mk.injEq] at hr1 hr2
    obtain ⟨rfl, rfl, rfl⟩ := hr1
    obtain ⟨rfl, rfl, rfl⟩ := hr2
    rw [errV_2]
    go_wp2_with fail
    go_ret
    exact ⟨rfl, acc0 XB.out XB.out.size A15.out⟩
  cases o2
  · obtain ⟨hr, rfl⟩ := HBAD.out rfl
    injection hr with hr1 hr2
    simp only [Prod.mk.injEq] at hr1 hr2
    obtain ⟨rfl, rfl, rfl⟩ := hr1
    obtain ⟨rfl, rfl, rfl⟩ := hr2
    rw [errV_2]
    go_wp2_with fail
    go_ret
    exact ⟨rfl, acc0 XB.out XB.out.size A15.out⟩
  cases k
  · obtain ⟨hr, rfl⟩ := HBAD.out rfl
    injection hr with hr1 hr2
    simp only [Prod.mk.injEq] at hr1 hr2
    obtain ⟨rfl, rfl, rfl⟩ := hr1
    obtain ⟨rfl, rfl, rfl⟩ := hr2
    rw [errV_2]
    go_wp2_with (go_at_call 17; refine (H4.out _).mono ?_; rintro e w16 ⟨rfl, hb⟩; have A16 := Lib.hid (A15.out.trans (hb.mono A15.out.size)); have B16 := Lib.hid (B15.out.under hb B15.out.lt); clear hb d0 d1 d2 d3 d4 d5 ld e0 e1 e2 e3 e4 e5 le; obtain ⟨d0, d1, d2, d3, d4, d5⟩ := cells6 B16.out; have ld := B16.out.lt)
    go_ret
    exact ⟨rfl, acc0 XB.out XB.out.size A16.out⟩
  · obtain ⟨hr, rfl⟩ := HGOOD.out rfl
    injection hr with hr1 hr2
    simp only [Prod.mk.injEq] at hr1 hr2
    obtain ⟨rfl, rfl, rfl⟩ := hr1
    obtain ⟨rfl, rfl, rfl⟩ := hr2
    rw [errV_0]
    go_wp2_with (go_at_call 17; refine (H4.out _).mono ?_; rintro e w16 ⟨rfl, hb⟩; have A16 := Lib.hid (A15.out.trans (hb.mono A15.out.size)); have B16 := Lib.hid (B15.out.under hb B15.out.lt); have B46 := Lib.hid (B4.out.under hb B4.out.lt); clear hb d0 d1 d2 d3 d4 d5 ld e0 e1 e2 e3 e4 e5 le; obtain ⟨d0, d1, d2, d3, d4, d5⟩ := cells6 B16.out; have ld := B16.out.lt; obtain ⟨e0, e1, e2, e3, e4, e5⟩ := cells6 B46.out; have le := B46.out.lt)
    go_ret
    exact ⟨rfl, acc0 XB.out XB.out.size A16.out⟩
end Go.Proofs.YtlpgkldialmofaaDoor
