/- The contracts of merlonref10.named, of iface.May and of merlonref10.May; memory: a row of named types, an interface. -/
import Derived.Test.YtbffijiecbfpnaaGreatDoorIfN
namespace Go.Proofs.YtbffijiecbfpnaaGreatDoor
open Go.RowKit
set_option linter.unusedSimpArgs false
set_option linter.unusedVariables false
set_option maxRecDepth 100000 in
set_option maxHeartbeats 40000000 in
theorem refNamedtrue_c (l : List Nm) (A : Option Addr) (cap B : Nat) (w : World) (h : NmsAt w B A l) (hB : B ≤ w.heap.size) (hl : l.length ≤ maxLen) (hf : fewN l = true) :
    Calls Tryz.prog 59 #[.slice A l.length cap, .bool true] w fun e w' => e = .returned (.bool (namedB greatB l)) ∧ Below w.heap.size w w' := by
  obtain ⟨R, hR⟩ : ∃ R, namedB greatB l = R := ⟨_, rfl⟩
  rw [hR]
  have HR := Lib.hid hR
  have H := Lib.hid h
  have HF := Lib.hid hf
  unfold maxLen at hl
  clear hR h hf
  go_enter Tryz.func59, Tryz.ntmps59
  go_wp2_with fail
  go_loopw [5] (fun iv wr => ∃ k : Nat, iv = .int .i64 k ∧ k ≤ l.length ∧ Below w.heap.size w wr ∧ ∀ i, i < k → nmOk greatB l i = true) (fun iv _ => l.length - (intOf iv).toNat)
  case atStart => exact ⟨0, rfl, Nat.zero_le _, Below.refl _ _, fun i hi => absurd hi (by omega)⟩
  case round =>
    obtain ⟨k, rfl, hk, hb1, hall⟩ := hrel
    have A1 := Lib.hid hb1
    have HA := Lib.hid hall
    clear hb1 hall
    by_cases hlt : k < l.length
    rotate_left
    · obtain rfl : k = l.length := by omega
      have hltI : ¬ (l.length : Int) < (l.length : Int) := by omega
      go_wp2_with fail
      go_ret
      exact ⟨ret_b (by rw [← HR.out, named_all HA.out]), A1.out⟩
    have hltI : (k : Int) < (l.length : Int) := by omega
    obtain ⟨n, hn⟩ : ∃ n, l[k] = n := ⟨_, rfl⟩
    obtain ⟨hns, b, o, na, nc, sa, sc, rfl, hbB, hty, c0, c1, c2, c3, c4, c5, c6, c7⟩ := H.out.elem hlt hn
    have hbW : b < w.heap.size := by omega
    have hfw : FewB n.ty = true := by
      have := List.all_eq_true.1 HF.out n (by rw [← hn]; exact List.getElem_mem hlt)
      exact this
    have hmany := few_many n.ty hfw
    have HTY := Lib.hid hty
    simp only [tyCells] at HTY
    have CC := Lib.hid (And.intro c0 (And.intro c1 (And.intro c2 (And.intro c3 (And.intro c4 (And.intro c5 (And.intro c6 c7)))))))
    have cells := fun (W : World) (hb : Below w.heap.size w W) => (show W.cell? ⟨b, o + k * 8, none⟩ = some (.string n.name) ∧ W.cell? ⟨b, o + k * 8 + 1, none⟩ = some (.int .i64 n.ty.kind) ∧ W.cell? ⟨b, o + k * 8 + 2, none⟩ = some (.string n.ty.pkg) ∧ W.cell? ⟨b, o + k * 8 + 3, none⟩ = some (.int .i64 n.ty.major) ∧ W.cell? ⟨b, o + k * 8 + 4, none⟩ = some (.string n.ty.mod) ∧ W.cell? ⟨b, o + k * 8 + 5, none⟩ = some (.string n.ty.name) ∧ W.cell? ⟨b, o + k * 8 + 6, none⟩ = some (.slice na n.ty.names.length nc) ∧ W.cell? ⟨b, o + k * 8 + 7, none⟩ = some (.slice sa n.ty.subs.length sc) from by
      obtain ⟨c0, c1, c2, c3, c4, c5, c6, c7⟩ := CC.out
      refine ⟨?_, ?_, ?_, ?_, ?_, ?_, ?_, ?_⟩
      all_goals (rw [hb.cell (p := ⟨b, _, none⟩) hbW]; assumption))
    have CELLS := Lib.hid cells
    have HC0 := Lib.hid (fun w => rGreat_c n.name w hns)
    have HC1 := Lib.hid (fun w => rSmall_c n.name w hns)
    have hC2 := fun w' ht hB' => rMay_c n.ty (tyCells n.ty na nc sa sc) B w' ht hB' (by omega)
    have hC3 := fun w' ht hB' => rPlain_c n.ty (tyCells n.ty na nc sa sc) B w' ht hB'
    obtain ⟨sg, hsg⟩ : ∃ s, greatB n.name = s := ⟨_, rfl⟩
    obtain ⟨ss, hss⟩ : ∃ s, smallB n.name = s := ⟨_, rfl⟩
    obtain ⟨my, hmy⟩ : ∃ s, mayT n.ty = s := ⟨_, rfl⟩
    obtain ⟨pl, hpl⟩ : ∃ s, plainT n.ty = s := ⟨_, rfl⟩
    have hdO : nmOk greatB l k = (sg && ((decide (k = 0) || ltB (l[k - 1]'(by omega)).name n.name) && (my && pl))) := by
      rw [nmOk, dif_pos hlt]
      simp only [hn, hsg, hss, PlainB, hmy, hpl]
    have HDO := Lib.hid hdO
    rw [hsg] at HC0
    rw [hss] at HC1
    simp only [tyCells, hmy] at hC2
    simp only [tyCells, hpl] at hC3
    have HC2 := Lib.hid hC2
    have HC3 := Lib.hid hC3
    clear hsg hss hmy hpl hdO hC2 hC3 hty hn c0 c1 c2 c3 c4 c5 c6 c7 cells hfw hmany
    obtain ⟨d0, d1, d2, d3, d4, d5, d6, d7⟩ := CELLS.out wr A1.out
    have hbR : b < wr.heap.size := Nat.lt_of_lt_of_le hbW A1.out.size
    go_upto_region 7 with (first
      | (go_at_call 78; refine (HC0.out _).mono ?_; rintro e w2 ⟨rfl, rfl⟩)
      | (go_at_call 58; refine (HC1.out _).mono ?_; rintro e w3 ⟨rfl, hb⟩; have A3 := Lib.hid (A1.out.trans (hb.mono A1.out.size)); clear hb d0 d1 d2 d3 d4 d5 d6 d7; obtain ⟨d0, d1, d2, d3, d4, d5, d6, d7⟩ := CELLS.out w3 A3.out; have hbR3 : b < w3.heap.size := Nat.lt_of_lt_of_le hbW A3.out.size)
      | (go_at_call 79; refine (HC2.out _ (HTY.out.under (A3.out.mono hB)) (Nat.le_trans hB A3.out.size)).mono ?_; rintro e w4 ⟨rfl, hb⟩; have A4 := Lib.hid (A3.out.trans (hb.mono A3.out.size)); clear hb d0 d1 d2 d3 d4 d5 d6 d7; obtain ⟨d0, d1, d2, d3, d4, d5, d6, d7⟩ := CELLS.out w4 A4.out; have hbR4 : b < w4.heap.size := Nat.lt_of_lt_of_le hbW A4.out.size))
    cases sg
    · as_aux_lemma =>
        have hbad := named_bad hlt (by rw [HDO.out]; rfl)
        rw [HR.out] at hbad
        subst hbad
        go_quiet (fail)
        go_wp2_with fail
        go_ret
        exact ⟨rfl, below_drewN A4.out _⟩
    cases my
    · as_aux_lemma =>
        have hbad := named_bad hlt (by rw [HDO.out]; simp)
        rw [HR.out] at hbad
        subst hbad
        go_quiet (fail)
        go_wp2_with fail
        go_ret
        exact ⟨rfl, below_drewN A4.out _⟩
    by_cases h0 : k = 0
    · subst h0
      cases pl
      · as_aux_lemma =>
          have hbad := named_bad hlt (by rw [HDO.out]; rfl)
          rw [HR.out] at hbad
          subst hbad
          go_quiet (fail)
          go_wp2_with (go_at_call 80; refine (HC3.out _ (HTY.out.under ((below_drewN A4.out _).mono hB)) (Nat.le_trans hB A4.out.size)).mono ?_; rintro e w6 ⟨rfl, hb⟩; have A6 := Lib.hid ((below_drewN A4.out _).trans (hb.mono A4.out.size)); clear hb)
          go_ret
          exact ⟨rfl, A6.out⟩
      · as_aux_lemma =>
          have hok : nmOk greatB l 0 = true := by rw [HDO.out]; rfl
          go_quiet (fail)
          go_wp2_with (go_at_call 80; refine (HC3.out _ (HTY.out.under ((below_drewN A4.out _).mono hB)) (Nat.le_trans hB A4.out.size)).mono ?_; rintro e w6 ⟨rfl, hb⟩; have A6 := Lib.hid ((below_drewN A4.out _).trans (hb.mono A4.out.size)); clear hb)
          exact ⟨⟨0 + 1, by go_num, by omega, A6.out, fun i hi => by obtain rfl : i = 0 := by omega
                                                                     exact hok⟩, by simp [intOf]; omega⟩
    have hk0I : (0 : Int) < (k : Int) := by omega
    have hk0D : decide (0 < k) = true := by simp; omega
    have hkB : ((k - 1 : Nat) : Int) < (l.length : Int) := by omega
    have hkB2 : k - 1 < l.length := by omega
    have hkw : IntKind.i64.wrap ((k - 1 : Nat) : Int) = ((k - 1 : Nat) : Int) := by rw [IntKind.wrap_i64]; omega
    have hkm : (k : Int) - 1 = ((k - 1 : Nat) : Int) := by omega
    obtain ⟨q, hq⟩ : ∃ q, (l[k - 1]'(by omega)).name = q := ⟨_, rfl⟩
    obtain ⟨-, b', o', -, -, -, -, e', -, -, hcq, -⟩ := H.out.elem hkB2 rfl
    injection e' with e'
    injection e' with e1 e2
    subst e1 e2
    rw [hq, ← A4.out.cell (p := ⟨b, _, none⟩) hbW] at hcq
    rw [hq] at HDO
    obtain ⟨lt, hlt2⟩ : ∃ x, ltB q n.name = x := ⟨_, rfl⟩
    rw [hlt2] at HDO
    have hle : (Op.bytesLess n.name.toList q.toList || n.name.toList == q.toList) = !lt := by rw [less_total, ← hlt2]; rfl
    clear hlt2 hq
    cases lt
    · as_aux_lemma =>
        have hbad := named_bad hlt (by rw [HDO.out]; simp [h0])
        rw [HR.out] at hbad
        subst hbad
        go_quiet (fail)
        go_wp2_with fail
        go_ret
        exact ⟨rfl, below_drewN A4.out _⟩
    cases pl
    · as_aux_lemma =>
        have hbad := named_bad hlt (by rw [HDO.out]; simp)
        rw [HR.out] at hbad
        subst hbad
        go_quiet (fail)
        go_wp2_with (go_at_call 80; refine (HC3.out _ (HTY.out.under ((below_drewN A4.out _).mono hB)) (Nat.le_trans hB A4.out.size)).mono ?_; rintro e w6 ⟨rfl, hb⟩; have A6 := Lib.hid ((below_drewN A4.out _).trans (hb.mono A4.out.size)); clear hb)
        go_ret
        exact ⟨rfl, A6.out⟩
    · as_aux_lemma =>
        have hok : nmOk greatB l k = true := by rw [HDO.out]; simp
        go_quiet (fail)
        go_wp2_with (go_at_call 80; refine (HC3.out _ (HTY.out.under ((below_drewN A4.out _).mono hB)) (Nat.le_trans hB A4.out.size)).mono ?_; rintro e w6 ⟨rfl, hb⟩; have A6 := Lib.hid ((below_drewN A4.out _).trans (hb.mono A4.out.size)); clear hb)
        exact ⟨⟨k + 1, by go_num, by omega, A6.out, fun i hi => by
          by_cases e : i = k
          · subst e; exact hok
          · exact HA.out i (by omega)⟩, by simp [intOf]; omega⟩
set_option maxRecDepth 100000 in
set_option maxHeartbeats 40000000 in
theorem refNamedfalse_c (l : List Nm) (A : Option Addr) (cap B : Nat) (w : World) (h : NmsAt w B A l) (hB : B ≤ w.heap.size) (hl : l.length ≤ maxLen) (hf : fewN l = true) :
    Calls Tryz.prog 59 #[.slice A l.length cap, .bool false] w fun e w' => e = .returned (.bool (namedB smallB l)) ∧ Below w.heap.size w w' := by
  obtain ⟨R, hR⟩ : ∃ R, namedB smallB l = R := ⟨_, rfl⟩
  rw [hR]
  have HR := Lib.hid hR
  have H := Lib.hid h
  have HF := Lib.hid hf
  unfold maxLen at hl
  clear hR h hf
  go_enter Tryz.func59, Tryz.ntmps59
  go_wp2_with fail
  go_loopw [5] (fun iv wr => ∃ k : Nat, iv = .int .i64 k ∧ k ≤ l.length ∧ Below w.heap.size w wr ∧ ∀ i, i < k → nmOk smallB l i = true) (fun iv _ => l.length - (intOf iv).toNat)
  case atStart => exact ⟨0, rfl, Nat.zero_le _, Below.refl _ _, fun i hi => absurd hi (by omega)⟩
  case round =>
    obtain ⟨k, rfl, hk, hb1, hall⟩ := hrel
    have A1 := Lib.hid hb1
    have HA := Lib.hid hall
    clear hb1 hall
    by_cases hlt : k < l.length
    rotate_left
    · obtain rfl : k = l.length := by omega
      have hltI : ¬ (l.length : Int) < (l.length : Int) := by omega
      go_wp2_with fail
      go_ret
      exact ⟨ret_b (by rw [← HR.out, named_all HA.out]), A1.out⟩
    have hltI : (k : Int) < (l.length : Int) := by omega
    obtain ⟨n, hn⟩ : ∃ n, l[k] = n := ⟨_, rfl⟩
    obtain ⟨hns, b, o, na, nc, sa, sc, rfl, hbB, hty, c0, c1, c2, c3, c4, c5, c6, c7⟩ := H.out.elem hlt hn
    have hbW : b < w.heap.size := by omega
    have hfw : FewB n.ty = true := by
      have := List.all_eq_true.1 HF.out n (by rw [← hn]; exact List.getElem_mem hlt)
      exact this
    have hmany := few_many n.ty hfw
    have HTY := Lib.hid hty
    simp only [tyCells] at HTY
    have CC := Lib.hid (And.intro c0 (And.intro c1 (And.intro c2 (And.intro c3 (And.intro c4 (And.intro c5 (And.intro c6 c7)))))))
    have cells := fun (W : World) (hb : Below w.heap.size w W) => (show W.cell? ⟨b, o + k * 8, none⟩ = some (.string n.name) ∧ W.cell? ⟨b, o + k * 8 + 1, none⟩ = some (.int .i64 n.ty.kind) ∧ W.cell? ⟨b, o + k * 8 + 2, none⟩ = some (.string n.ty.pkg) ∧ W.cell? ⟨b, o + k * 8 + 3, none⟩ = some (.int .i64 n.ty.major) ∧ W.cell? ⟨b, o + k * 8 + 4, none⟩ = some (.string n.ty.mod) ∧ W.cell? ⟨b, o + k * 8 + 5, none⟩ = some (.string n.ty.name) ∧ W.cell? ⟨b, o + k * 8 + 6, none⟩ = some (.slice na n.ty.names.length nc) ∧ W.cell? ⟨b, o + k * 8 + 7, none⟩ = some (.slice sa n.ty.subs.length sc) from by
      obtain ⟨c0, c1, c2, c3, c4, c5, c6, c7⟩ := CC.out
      refine ⟨?_, ?_, ?_, ?_, ?_, ?_, ?_, ?_⟩
      all_goals (rw [hb.cell (p := ⟨b, _, none⟩) hbW]; assumption))
    have CELLS := Lib.hid cells
    have HC0 := Lib.hid (fun w => rGreat_c n.name w hns)
    have HC1 := Lib.hid (fun w => rSmall_c n.name w hns)
    have hC2 := fun w' ht hB' => rMay_c n.ty (tyCells n.ty na nc sa sc) B w' ht hB' (by omega)
    have hC3 := fun w' ht hB' => rPlain_c n.ty (tyCells n.ty na nc sa sc) B w' ht hB'
    obtain ⟨sg, hsg⟩ : ∃ s, greatB n.name = s := ⟨_, rfl⟩
    obtain ⟨ss, hss⟩ : ∃ s, smallB n.name = s := ⟨_, rfl⟩
    obtain ⟨my, hmy⟩ : ∃ s, mayT n.ty = s := ⟨_, rfl⟩
    obtain ⟨pl, hpl⟩ : ∃ s, plainT n.ty = s := ⟨_, rfl⟩
    have hdO : nmOk smallB l k = (ss && ((decide (k = 0) || ltB (l[k - 1]'(by omega)).name n.name) && (my && pl))) := by
      rw [nmOk, dif_pos hlt]
      simp only [hn, hsg, hss, PlainB, hmy, hpl]
    have HDO := Lib.hid hdO
    rw [hsg] at HC0
    rw [hss] at HC1
    simp only [tyCells, hmy] at hC2
    simp only [tyCells, hpl] at hC3
    have HC2 := Lib.hid hC2
    have HC3 := Lib.hid hC3
    clear hsg hss hmy hpl hdO hC2 hC3 hty hn c0 c1 c2 c3 c4 c5 c6 c7 cells hfw hmany
    obtain ⟨d0, d1, d2, d3, d4, d5, d6, d7⟩ := CELLS.out wr A1.out
    have hbR : b < wr.heap.size := Nat.lt_of_lt_of_le hbW A1.out.size
    go_upto_region 7 with (first
      | (go_at_call 78; refine (HC0.out _).mono ?_; rintro e w2 ⟨rfl, rfl⟩)
      | (go_at_call 58; refine (HC1.out _).mono ?_; rintro e w3 ⟨rfl, hb⟩; have A3 := Lib.hid (A1.out.trans (hb.mono A1.out.size)); clear hb d0 d1 d2 d3 d4 d5 d6 d7; obtain ⟨d0, d1, d2, d3, d4, d5, d6, d7⟩ := CELLS.out w3 A3.out; have hbR3 : b < w3.heap.size := Nat.lt_of_lt_of_le hbW A3.out.size)
      | (go_at_call 79; refine (HC2.out _ (HTY.out.under (A3.out.mono hB)) (Nat.le_trans hB A3.out.size)).mono ?_; rintro e w4 ⟨rfl, hb⟩; have A4 := Lib.hid (A3.out.trans (hb.mono A3.out.size)); clear hb d0 d1 d2 d3 d4 d5 d6 d7; obtain ⟨d0, d1, d2, d3, d4, d5, d6, d7⟩ := CELLS.out w4 A4.out; have hbR4 : b < w4.heap.size := Nat.lt_of_lt_of_le hbW A4.out.size))
    cases ss
    · as_aux_lemma =>
        have hbad := named_bad hlt (by rw [HDO.out]; rfl)
        rw [HR.out] at hbad
        subst hbad
        go_quiet (fail)
        go_wp2_with fail
        go_ret
        exact ⟨rfl, below_drewN A4.out _⟩
    cases my
    · as_aux_lemma =>
        have hbad := named_bad hlt (by rw [HDO.out]; simp)
        rw [HR.out] at hbad
        subst hbad
        go_quiet (fail)
        go_wp2_with fail
        go_ret
        exact ⟨rfl, below_drewN A4.out _⟩
    by_cases h0 : k = 0
    · subst h0
      cases pl
      · as_aux_lemma =>
          have hbad := named_bad hlt (by rw [HDO.out]; rfl)
          rw [HR.out] at hbad
          subst hbad
          go_quiet (fail)
          go_wp2_with (go_at_call 80; refine (HC3.out _ (HTY.out.under ((below_drewN A4.out _).mono hB)) (Nat.le_trans hB A4.out.size)).mono ?_; rintro e w6 ⟨rfl, hb⟩; have A6 := Lib.hid ((below_drewN A4.out _).trans (hb.mono A4.out.size)); clear hb)
          go_ret
          exact ⟨rfl, A6.out⟩
      · as_aux_lemma =>
          have hok : nmOk smallB l 0 = true := by rw [HDO.out]; rfl
          go_quiet (fail)
          go_wp2_with (go_at_call 80; refine (HC3.out _ (HTY.out.under ((below_drewN A4.out _).mono hB)) (Nat.le_trans hB A4.out.size)).mono ?_; rintro e w6 ⟨rfl, hb⟩; have A6 := Lib.hid ((below_drewN A4.out _).trans (hb.mono A4.out.size)); clear hb)
          exact ⟨⟨0 + 1, by go_num, by omega, A6.out, fun i hi => by obtain rfl : i = 0 := by omega
                                                                     exact hok⟩, by simp [intOf]; omega⟩
    have hk0I : (0 : Int) < (k : Int) := by omega
    have hk0D : decide (0 < k) = true := by simp; omega
    have hkB : ((k - 1 : Nat) : Int) < (l.length : Int) := by omega
    have hkB2 : k - 1 < l.length := by omega
    have hkw : IntKind.i64.wrap ((k - 1 : Nat) : Int) = ((k - 1 : Nat) : Int) := by rw [IntKind.wrap_i64]; omega
    have hkm : (k : Int) - 1 = ((k - 1 : Nat) : Int) := by omega
    obtain ⟨q, hq⟩ : ∃ q, (l[k - 1]'(by omega)).name = q := ⟨_, rfl⟩
    obtain ⟨-, b', o', -, -, -, -, e', -, -, hcq, -⟩ := H.out.elem hkB2 rfl
    injection e' with e'
    injection e' with e1 e2
    subst e1 e2
    rw [hq, ← A4.out.cell (p := ⟨b, _, none⟩) hbW] at hcq
    rw [hq] at HDO
    obtain ⟨lt, hlt2⟩ : ∃ x, ltB q n.name = x := ⟨_, rfl⟩
    rw [hlt2] at HDO
    have hle : (Op.bytesLess n.name.toList q.toList || n.name.toList == q.toList) = !lt := by rw [less_total, ← hlt2]; rfl
    clear hlt2 hq
    cases lt
    · as_aux_lemma =>
        have hbad := named_bad hlt (by rw [HDO.out]; simp [h0])
        rw [HR.out] at hbad
        subst hbad
        go_quiet (fail)
        go_wp2_with fail
        go_ret
        exact ⟨rfl, below_drewN A4.out _⟩
    cases pl
    · as_aux_lemma =>
        have hbad := named_bad hlt (by rw [HDO.out]; simp)
        rw [HR.out] at hbad
        subst hbad
        go_quiet (fail)
        go_wp2_with (go_at_call 80; refine (HC3.out _ (HTY.out.under ((below_drewN A4.out _).mono hB)) (Nat.le_trans hB A4.out.size)).mono ?_; rintro e w6 ⟨rfl, hb⟩; have A6 := Lib.hid ((below_drewN A4.out _).trans (hb.mono A4.out.size)); clear hb)
        go_ret
        exact ⟨rfl, A6.out⟩
    · as_aux_lemma =>
        have hok : nmOk smallB l k = true := by rw [HDO.out]; simp
        go_quiet (fail)
        go_wp2_with (go_at_call 80; refine (HC3.out _ (HTY.out.under ((below_drewN A4.out _).mono hB)) (Nat.le_trans hB A4.out.size)).mono ?_; rintro e w6 ⟨rfl, hb⟩; have A6 := Lib.hid ((below_drewN A4.out _).trans (hb.mono A4.out.size)); clear hb)
        exact ⟨⟨k + 1, by go_num, by omega, A6.out, fun i hi => by
          by_cases e : i = k
          · subst e; exact hok
          · exact HA.out i (by omega)⟩, by simp [intOf]; omega⟩
end Go.Proofs.YtbffijiecbfpnaaGreatDoor
