/- merlonlaw12.BumpSafe returns true. -/
import Derived.Test.YtjeldfipipkfiaaGreatUpB
import Derived.Test.YtjeldfipipkfiaaGreatGUsD
import Derived.Test.YtjeldfipipkfiaaGreatGOf
import Derived.Test.YtjeldfipipkfiaaGreatCatK
import Derived.Test.YtjeldfipipkfiaaGreatGMent
namespace Go.Proofs.YtjeldfipipkfiaaGreat
open Go.RowKit
set_option linter.unusedSimpArgs false
set_option linter.unusedVariables false
theorem eq_errnilS (w : World) : (binOp BinOp.eql 35 (.iface 62 (.int .i64 1)) .nilIface).run Tryz.prog w = .ok (.bool false) w := by kernel_rfl
theorem neq_errnilS (w : World) : (binOp BinOp.neq 35 (.iface 62 (.int .i64 1)) .nilIface).run Tryz.prog w = .ok (.bool true) w := by kernel_rfl
theorem few_le {a : List If} (h : FewI a = true) : a.length ≤ 200 := by
  rw [FewI, Bool.and_eq_true, decide_eq_true_eq] at h; exact h.1
theorem few_app {a b : List If} (ha : FewI a = true) (hb : FewI b = true) : (a ++ b).all fewX = true := by
  rw [FewI, Bool.and_eq_true] at ha hb
  rw [List.all_append, ha.2, hb.2]; rfl
theorem envI_all {w : World} {B : Nat} {a : List If} {A : Option Addr} {c : Nat} (h : IfsAt w B A a) (hc : a.length ≤ c) (hl : a.length ≤ 1000000) (hf : a.all fewX = true) : EnvI w B a A c := by
  rw [List.all_eq_true] at hf
  refine ⟨h, hl, fun x hx => ?_, fun x hx => ?_, hc⟩
  · have := hf x hx
    simp only [fewX, Bool.and_eq_true, decide_eq_true_eq] at this
    omega
  · have := hf x hx
    simp only [fewX, Bool.and_eq_true, decide_eq_true_eq] at this
    omega
theorem step_append_ifs {w : World} {ops : Array Oper} {o : Oper} {a : Act} {K : Act → World → Prop} {Q : Exit → Act → World → Prop} {E : Prop} (hgd : o.guard = none) (s x : Operand)
    (ho : o.op = .call { callee := .builtin .append, args := #[s, x], argTypes := #[26, 26] })
    (base : Nat) (v : Value) (n : Nat) (xs : List Value) (hs : a.eval s = v) (hown : w.ownsRow base 33 5 v n xs)
    (A : Option Addr) (m c B : Nat) (f : Nat → Array Value) (hx : a.eval x = .slice A m c) (hr : RowsK 5 w B A m f) (hz : ∀ i, i < m → (f i).size = 5) (h1 : ∀ i, i < m → ∀ u ∈ (f i).toList, u.oneCell' = true)
    (hnm : n + m ≤ 1000000) (hbase : base ≤ w.heap.size)
    (h : ∀ v' w', w'.ownsRow base 33 5 v' (n + m) (xs ++ flatK f m) → Below base w w' → K (a.put o.dst v') w') :
    if Region.wanted o (yielded ops a.tmps) = true then Oper.wp Tryz.prog o a w K Q else E := by
  obtain ⟨i0, hi, hz0, hz1, hz2⟩ := info_parts infoIface
  cases A with
  | none =>
    have hm : m = 0 := by
      rcases hr with h | ⟨b, o, h, -⟩
      · exact h
      · cases h
    subst hm
    have hw : Region.wanted o (yielded ops a.tmps) = true := by simp [Region.wanted, hgd]
    rw [if_pos hw]
    have hrun : (Builtin.append_ #[26, 26] o.type #[v, .slice none 0 c]).run Tryz.prog w = .ok v w := by
      rcases hown.2 with ⟨rfl, rfl⟩ | ⟨g, cap, cur, rfl, _, _, hnc, _⟩
      · simp [Builtin.append_, run_underlying Tryz.underlying26, sizeOf, typeInfo, hi, Builtin.lenOf, Builtin.firstCells]
      · simp [Builtin.append_, run_underlying Tryz.underlying26, sizeOf, typeInfo, hi, Builtin.lenOf, Builtin.firstCells, hnc, storeCells]
    unfold Oper.wp execOp
    simp only [ho, resolve, invoke, builtin, Sem.run_bind, Sem.run_pure, Result.andThen_ok, List.map_toArray, List.map_cons, List.map_nil, hs, hx, hrun]
    exact h v w (by simpa [flatK] using hown) (Below.refl _ _)
  | some ad =>
    refine step_append_own2 hgd s x 26 ho base 33 i0 _ 5 88 Tryz.underlying26 hi hz0 hz1 hz2 rfl (by decide) v n xs hs hown ad m c (flatK f m) hx (flatK_len hz) (rows_src (by decide) hr hz) (flatK_one (K := 5) h1) (by unfold maxLen; omega) (by omega) hbase ?_
    intro v' w' h2 h3 h4
    exact h v' w' h2 ((Below.refl base w).grown h3 hbase (fun k hk => (owns_lt' hown hk).1))
theorem made0 (w : World) : ((w.alloc (.cells #[] 33)).drew).ownsRow w.heap.size 33 5 (.slice (some ⟨w.heap.size, 0, none⟩) 0 0) 0 [] ∧ Below w.heap.size w ((w.alloc (.cells #[] 33)).drew) :=
  ⟨World.ownsRow_made w #[] 0 (Nat.le_refl _) (by unfold maxLen; omega) rfl, ((Below.refl _ w).alloc (Nat.le_refl _) _).drew⟩
theorem app_ifs {W0 W : World} {B base : Nat} {x r : List If} {fx fr : Nat → Array Value} {v : Value} (hnx : ∀ i (h : i < x.length), IfC W0 B x[i] (fx i)) (hnr : ∀ i (h : i < r.length), IfC W0 B r[i] (fr i)) (hb : Below base W0 W) (hB : B ≤ base) (h0 : base ≤ W0.heap.size)
    (hown : W.ownsRow base 33 5 v (0 + x.length + r.length) ([] ++ flatK fx x.length ++ flatK fr r.length)) : ∃ A cap, v = .slice A (x ++ r).length cap ∧ (x ++ r).length ≤ cap ∧ IfsAt W W.heap.size A (x ++ r) := by
  rw [List.nil_append, Nat.zero_add, flatK_app] at hown
  have hsz : ∀ i, i < x.length + r.length → (if i < x.length then fx i else fr (i - x.length)).size = 5 := by
    intro i hi
    split
    · exact (hnx i ‹_›).size
    · exact (hnr (i - x.length) (by omega)).size
  obtain ⟨A2, cap2, rfl, hcap, hrows⟩ := own_rows hown hsz
  refine ⟨A2, cap2, by rw [List.length_append], by rw [List.length_append]; exact hcap, ⟨_, by rw [List.length_append]; exact hrows, fun i hi => ?_⟩⟩
  rw [List.length_append] at hi
  have hsize := hb.size
  by_cases hlt : i < x.length
  · simp only [if_pos hlt]
    rw [List.getElem_append_left hlt]
    exact ((hnx i hlt).keep fun q hq => hb.cell (by omega)).mono (by omega)
  · simp only [if_neg hlt]
    rw [List.getElem_append_right (by omega)]
    exact ((hnr (i - x.length) (by omega)).keep fun q hq => hb.cell (by omega)).mono (by omega)
theorem pm_not {q z : If} (h : (q.pkg.toList == z.pkg.toList) = false) : ¬ (q.pkg = z.pkg ∧ q.major = z.major) := fun e => by rw [e.1] at h; simp at h
set_option maxRecDepth 100000 in
set_option maxHeartbeats 40000000 in
theorem bsafe_c (A A' A2 ia la : Option Addr) (c c' c2 ic lc B : Nat) (x y r : List If) (u : Us) (w : World) (h1 : IfsAt w B A x) (h2 : IfsAt w B A' y) (hr : IfsAt w B A2 r) (h3 : UsO w B u ia ic la lc) (hB : B ≤ w.heap.size) (hl : x.length ≤ maxLen) (hl' : y.length ≤ maxLen) (hl2 : r.length ≤ maxLen) (hc : x.length ≤ c) (hc' : y.length ≤ c') (hc2 : r.length ≤ c2) :
    Calls Tryz.prog 5 #[.slice A x.length c, .slice A' y.length c', .slice A2 r.length c2, .agg #[.slice ia u.imps.length ic, .slice la u.lines.length lc]] w fun e w' => e = .returned (.bool true) ∧ Below w.heap.size w w' := by
  have H1 := Lib.hid h1
  have H2 := Lib.hid h2
  have HRR := Lib.hid hr
  have H3 := Lib.hid h3
  have F1 := fun w h hB => FewI_c x A c B w h hB hl
  have F2 := fun w h hB => FewI_c y A' c' B w h hB hl'
  have F3 := fun w h hB => fewU_c u.imps.length u.lines ia ic la lc B w h h3.ni h3.nl hB
  have F4 := fun w h hB => FewI_c r A2 c2 B w h hB hl2
  obtain ⟨f1, e1⟩ : ∃ f, FewI x = f := ⟨_, rfl⟩
  obtain ⟨f2, e2⟩ : ∃ f, FewI y = f := ⟨_, rfl⟩
  obtain ⟨f4, e4⟩ : ∃ f, FewI r = f := ⟨_, rfl⟩
  simp only [e1] at F1
  simp only [e2] at F2
  simp only [e4] at F4
  have G1 := Lib.hid F1
  have G2 := Lib.hid F2
  have G3 := Lib.hid F3
  have G4 := Lib.hid F4
  have E1 := Lib.hid e1
  have E2 := Lib.hid e2
  have E4 := Lib.hid e4
  have HC := Lib.hid (And.intro hc (And.intro hc' hc2))
  clear h1 h2 hr h3 F1 F2 F3 F4 e1 e2 e4 hl hl' hc hc' hc2
  unfold maxLen at hl2
  have en := eq_errnilS
  have ne := neq_errnilS
  go_enter Tryz.func5, Tryz.ntmps5
  go_upto_region 1 with fail
  obtain ⟨b1, hb1, -⟩ := laidN w #[.slice ia u.imps.length ic, .slice la u.lines.length lc] 44
  generalize w.alloc (.cells #[.slice ia u.imps.length ic, .slice la u.lines.length lc] 44) = W0 at b1 hb1 ⊢
  have B0 := Lib.hid hb1
  have D0 := Lib.hid b1
  clear b1 hb1
  go_upto_region 2 with (go_at_call 16; refine (upB_c _).mono ?_; rintro e w1 ⟨rfl, hb⟩; have B1 := Lib.hid (B0.out.trans (hb.mono B0.out.size)); have D1 := Lib.hid (D0.out.under hb D0.out.lt); clear hb)
  go_upto_region 3 with (go_at_call 8; refine (G1.out _ (H1.out.under (B1.out.mono hB)) (Nat.le_trans hB B1.out.size)).mono ?_; rintro e w2 ⟨rfl, hb⟩; have B2 := Lib.hid (B1.out.trans (hb.mono B1.out.size)); have D2 := Lib.hid (D1.out.under hb D1.out.lt); clear hb)
  go_upto_region 4 with (go_at_call 8; refine (G2.out _ (H2.out.under (B2.out.mono hB)) (Nat.le_trans hB B2.out.size)).mono ?_; rintro e w3 ⟨rfl, hb⟩; have B3 := Lib.hid (B2.out.trans (hb.mono B2.out.size)); have D3 := Lib.hid (D2.out.under hb D2.out.lt); clear hb)
  go_upto_region 5 with (go_at_call 8; refine (G4.out _ (HRR.out.under (B3.out.mono hB)) (Nat.le_trans hB B3.out.size)).mono ?_; rintro e w4 ⟨rfl, hb⟩; have B4 := Lib.hid (B3.out.trans (hb.mono B3.out.size)); have D4 := Lib.hid (D3.out.under hb D3.out.lt); clear hb)
  obtain ⟨x0, x1⟩ := cellsT2 D4.out
  have lg := D4.out.lt
  go_upto_region 6 with (go_at_call 17; refine (G3.out _ (H3.out.lines.under (B4.out.mono hB)) (Nat.le_trans hB B4.out.size)).mono ?_; rintro e w5 ⟨f3, rfl, hb, e3⟩; have B5 := Lib.hid (B4.out.trans (hb.mono B4.out.size)); have D5 := Lib.hid (D4.out.under hb D4.out.lt); clear hb x0 x1 lg)
  have E3 := Lib.hid e3
  clear e3 B0 D0 B1 D1 B2 D2 B3 D3 B4 D4
  cases f1
  · go_wp2_with fail
    go_ret
    exact ⟨rfl, B5.out⟩
  cases f2
  · go_wp2_with fail
    go_ret
    exact ⟨rfl, B5.out⟩
  cases f4
  · go_wp2_with fail
    go_ret
    exact ⟨rfl, B5.out⟩
  cases f3
  · go_wp2_with fail
    go_ret
    exact ⟨rfl, B5.out⟩
  by_cases h50 : 50 < (r.length : Int)
  · go_wp2_with fail
    go_ret
    exact ⟨rfl, B5.out⟩
  obtain ⟨n1, v1, r1, C1⟩ := of_c' A A' c c' B x y E1.out E2.out
  have K1 := Lib.hid C1
  have R1 := Lib.hid r1
  have hv1 : v1 = .nilIface ∨ v1 = .iface 62 (.int .i64 1) := ofR_err R1.out
  clear C1 r1
  go_upto_region 9 with (go_at_call 18; refine (K1.out _ (H1.out.under (B5.out.mono hB)) (H2.out.under (B5.out.mono hB)) (Nat.le_trans hB B5.out.size)).mono ?_; rintro e w6 ⟨rfl, hb⟩; have B6 := Lib.hid (B5.out.trans (hb.mono B5.out.size)); have D6 := Lib.hid (D5.out.under hb D5.out.lt); clear hb)
  clear K1 B5 D5
  rcases hv1 with rfl | rfl
  rotate_left
  · skip
    go_wp2_with fail
    go_ret
    exact ⟨rfl, B6.out⟩
  by_cases hn : n1 = 3
  · subst hn
    go_wp2_with fail
    go_ret
    exact ⟨rfl, B6.out⟩
  by_cases h0 : (x.length : Int) = 0
  · skip
    go_wp2_with fail
    go_ret
    exact ⟨rfl, B6.out⟩
  have hx0 : 0 < x.length := by omega
  obtain ⟨hf, hn1⟩ := ofR_yes R1.out
  have HF := Lib.hid (And.intro hf (show ofF (chgF x y) ≠ 3 from fun h => hn (hn1.trans h)))
  clear hf hn1
  obtain ⟨z, hz⟩ : ∃ z, x[0] = z := ⟨_, rfl⟩
  have e3 : (n1 == 3) = false := by simpa using hn
  have e0 : ((x.length : Int) == 0) = false := by simpa using h0
  clear hn
  go_wp2_with fail
  go_loopw [16] (fun iv wr => ∃ k : Nat, k ≤ r.length ∧ iv = .int .i64 k ∧ Below w6.heap.size w6 wr ∧ ∀ i (hi : i < k) (hi2 : i < r.length), ¬ (r[i].pkg = z.pkg ∧ r[i].major = z.major)) (fun iv _ => r.length - (intOf iv).toNat)
  case atStart => exact ⟨0, Nat.zero_le _, rfl, Below.refl _ _, fun i hi => absurd hi (by omega)⟩
  case round =>
    rename World => wr
    obtain ⟨k, hk, rfl, hb, hall⟩ := hrel
    have BS := Lib.hid hb
    have BR := Lib.hid (B6.out.trans (hb.mono B6.out.size))
    have D0 := Lib.hid (D6.out.under hb D6.out.lt)
    have HALL := Lib.hid hall
    clear hb hall
    by_cases hlt : k < r.length
    · have hltI : (k : Int) < (r.length : Int) := by omega
      obtain ⟨q, hq⟩ : ∃ q, r[k] = q := ⟨_, rfl⟩
      obtain ⟨fq, b, o, ta, tc, va, vc, rfl, hbB, -, -, -, -, c0, c1, -⟩ := (HRR.out.under (BR.out.mono hB)).elem hlt hq
      obtain ⟨fz, b2, o2, ta2, tc2, va2, vc2, rfl, hbB2, -, -, -, -, d0, d1, -⟩ := (H1.out.under (BR.out.mono hB)).elem hx0 hz
      have hw := BR.out.size
      have hbw : b < wr.heap.size := by omega
      have hbw2 : b2 < wr.heap.size := by omega
      simp only [Nat.zero_mul, Nat.add_zero] at d0 d1
      have h0I : (0 : Int) < (x.length : Int) := by omega
      obtain ⟨ep, hep⟩ : ∃ e, (q.pkg.toList == z.pkg.toList) = e := ⟨_, rfl⟩
      have HEP := Lib.hid hep
      have HQ := Lib.hid hq
      clear fq fz hq
      by_cases hm : q.major = z.major
      all_goals
        cases ep
        all_goals
          go_upto_region 14 with fail
          go_quiet (fail)
          go_wp2_with fail
          first
            | (go_ret; exact ⟨rfl, below_drewN BR.out _⟩)
            | exact ⟨⟨k + 1, by omega, by go_num, below_drewN BS.out _, fun i hi hi2 => by
                rcases Nat.lt_or_ge i k with hi3 | hi3
                · exact HALL.out i hi3 hi2
                · obtain rfl : i = k := by omega
                  rw [HQ.out]
                  first
                    | exact fun h => hm h.2
                    | exact pm_not HEP.out⟩, by simp [intOf]; omega⟩
    · obtain rfl : k = r.length := by omega
      have hltI : ¬ (r.length : Int) < (r.length : Int) := by omega
      have HNP := Lib.hid (fun q (hq : q ∈ r) => by
        obtain ⟨i, hi, rfl⟩ := List.getElem_of_mem hq
        exact HALL.out i hi hi : ∀ q ∈ r, ¬ (q.pkg = z.pkg ∧ q.major = z.major))
      clear HALL BS hk hlt

      have DDa := Lib.hid D0.out
      have BBa := Lib.hid BR.out
      obtain ⟨fxa, hrx, hnx⟩ := H1.out.under (BBa.out.mono hB)
      obtain ⟨fra, hrr, hnr⟩ := HRR.out.under (BBa.out.mono hB)
      have RX := Lib.hid hrx
      have RR := Lib.hid hrr
      have NX := Lib.hid hnx
      have NR := Lib.hid hnr
      clear hrx hrr hnx hnr
      have hBw : B ≤ wr.heap.size := Nat.le_trans hB BBa.out.size
      have hlen : x.length + r.length ≤ 1000 := by have h1 := few_le E1.out; have h2 := few_le E4.out; omega
      have LEN := Lib.hid hlen
      clear hlen
      go_upto_region 16 with fail
      refine wp_region_until [(6, fun w' => Blk w' w.heap.size #[.slice ia u.imps.length ic, .slice la u.lines.length lc] 44)] (by kernel_rfl) (Until.cons (fun _ => DDa.out.drew) Until.nil) (fun hU => ?_)
      refine AnyU.loadc (i := 0) (d := 6) [6] (Si := fun w' => Blk w' w.heap.size #[.slice ia u.imps.length ic, .slice la u.lines.length lc] 44) (v := ?_) rfl (by kernel_rfl) (by kernel_rfl) (by kernel_rfl) (fun _ _ _ h => h) (by kernel_rfl) (by assumption) (by kernel_rfl) rfl (by simp) (by rfl) ?_ (fun hV => ?_)
      rotate_left 1
      · (intro wq hq; obtain ⟨u0, u1⟩ := cellsT2 hq; have ul := hq.lt; go_simp; try with_reducible rfl)
      clear hU; have hU := hV; clear hV
      try simp only [Act.put, aput]
      refine AnyU.take (i := 2) (v := ?_) rfl (by kernel_rfl) (by kernel_rfl) (by kernel_rfl) (fun _ _ _ h => h) (by kernel_rfl) (by assumption) (by rfl) ?_ (fun hV => ?_)
      rotate_left 1
      · (intro wq; go_simp; try with_reducible rfl)
      clear hU; have hU := hV; clear hV
      try simp only [Act.put, aput]
      refine AnyU.take (i := 4) (v := ?_) rfl (by kernel_rfl) (by kernel_rfl) (by kernel_rfl) (fun _ _ _ h => h) (by kernel_rfl) (by assumption) (by rfl) ?_ (fun hV => ?_)
      rotate_left 1
      · (intro wq; go_simp; try with_reducible rfl)
      clear hU; have hU := hV; clear hV
      try simp only [Act.put, aput]
      refine AnyU.ready1 (i := 1) (by kernel_rfl) (AnyU.one rfl fun K hK => ?_)
      go_simp
      have hm := made0 wr
      generalize (wr.alloc (.cells #[] 33)).drew = X1 at hm ⊢
      have M1 := Lib.hid hm
      clear hm
      refine hK.out _ _ (Until.cons (fun _ => DDa.out.under M1.out.2 DDa.out.lt) Until.nil) (fun hV => ?_)
      clear hK K
      clear hU; have hU := hV; clear hV
      try simp only [Act.put, aput]
      refine AnyU.ready1 (i := 3) (by kernel_rfl) (AnyU.one rfl fun K hK => ?_)
      refine step_append_ifs (by rfl) _ _ (by rfl) wr.heap.size _ 0 [] (by rfl) M1.out.1 A x.length c B fxa (by rfl) (RX.out.keep fun _ hp => M1.out.2.cell (Nat.lt_of_lt_of_le hp hBw)) (fun i hi => (NX.out i hi).size) (fun i hi => (NX.out i hi).one) (by have := LEN.out; omega) M1.out.2.size ?_
      intro v1 X2 hown hb
      have M2 := Lib.hid (And.intro hown (M1.out.2.trans hb))
      clear hown hb
      refine hK.out _ _ (Until.cons (fun _ => DDa.out.under M2.out.2 DDa.out.lt) Until.nil) (fun hV => ?_)
      clear hK K
      clear hU; have hU := hV; clear hV
      try simp only [Act.put, aput]
      refine AnyU.ready1 (i := 5) (by kernel_rfl) (AnyU.one rfl fun K hK => ?_)
      refine step_append_ifs (by rfl) _ _ (by rfl) wr.heap.size _ (0 + x.length) _ (by rfl) M2.out.1 A2 r.length c2 B fra (by rfl) (RR.out.keep fun _ hp => M2.out.2.cell (Nat.lt_of_lt_of_le hp hBw)) (fun i hi => (NR.out i hi).size) (fun i hi => (NR.out i hi).one) (by have := LEN.out; omega) M2.out.2.size ?_
      intro v2 X3 hown hb
      have hbx := M2.out.2.trans hb
      obtain ⟨A3, cap3, rfl, hcap3, hifs⟩ := app_ifs NX.out NR.out hbx hBw (Nat.le_refl _) hown
      have hall := few_app E1.out E4.out
      have hll : (x ++ r).length ≤ 1000000 := by rw [List.length_append]; have := LEN.out; omega
      obtain ⟨L, hL⟩ : ∃ L, x ++ r = L := ⟨_, rfl⟩
      rw [hL] at hcap3 hifs hall hll ⊢
      have CK := Lib.hid (usesCheck_c u L ia ic la lc A3 cap3 X3.heap.size X3 (((H3.out.under ((BBa.out.trans (hbx.mono BBa.out.size)).mono hB)).few (E3.out trivial)).mono (Nat.le_trans hBw hbx.size)) (envI_all hifs hcap3 hll hall) (Nat.le_refl _))
      have LLa := Lib.hid hL
      have M3 := Lib.hid hbx
      clear hown hb hbx hcap3 hifs hall hll hL
      refine hK.out _ _ (Until.cons (fun _ => DDa.out.under M3.out DDa.out.lt) Until.nil) (fun hV => ?_)
      clear hK K
      clear hU; have hU := hV; clear hV
      try simp only [Act.put, aput]
      refine AnyU.ready1 (i := 6) (by kernel_rfl) (AnyU.one rfl fun K hK => ?_)
      go_simp
      go_at_call 19
      refine CK.out.mono ?_
      rintro e wqa ⟨vqa, rfl, hb, hq⟩
      have QQa := Lib.hid hq
      have M4 := Lib.hid (M3.out.trans (hb.mono M3.out.size))
      clear hq hb
      refine hK.out _ _ (Until.off (by kernel_rfl)) (fun hV => ?_)
      clear hK K
      clear hU; have hU := hV; clear hV
      try simp only [Act.put, aput]
      refine AnyU.take (i := 7) (v := ?_) rfl (by kernel_rfl) (by kernel_rfl) (by kernel_rfl) (fun _ _ _ h => h) (by kernel_rfl) (by assumption) (by rfl) ?_ (fun hV => ?_)
      rotate_left 1
      · (intro wq; go_simp; try with_reducible rfl)
      clear hU; have hU := hV; clear hV
      try simp only [Act.put, aput]
      refine AnyU.done (by kernel_rfl) ?_
      have DDna := Lib.hid (DDa.out.under M4.out DDa.out.lt)
      have BBna := Lib.hid (BBa.out.trans (M4.out.mono BBa.out.size))
      clear M1 M2 M3 M4 CK hU RX RR NX NR LEN hBw
      have DDb := Lib.hid DDna.out
      have BBb := Lib.hid BBna.out
      obtain ⟨fxb, hrx, hnx⟩ := H2.out.under (BBb.out.mono hB)
      obtain ⟨frb, hrr, hnr⟩ := HRR.out.under (BBb.out.mono hB)
      have RX := Lib.hid hrx
      have RR := Lib.hid hrr
      have NX := Lib.hid hnx
      have NR := Lib.hid hnr
      clear hrx hrr hnx hnr
      have hBw : B ≤ wqa.heap.size := Nat.le_trans hB BBb.out.size
      have hlen : y.length + r.length ≤ 1000 := by have h1 := few_le E2.out; have h2 := few_le E4.out; omega
      have LEN := Lib.hid hlen
      clear hlen
      go_upto_region 17 with fail
      refine wp_region_until [(6, fun w' => Blk w' w.heap.size #[.slice ia u.imps.length ic, .slice la u.lines.length lc] 44)] (by kernel_rfl) (Until.cons (fun _ => DDb.out.drew) Until.nil) (fun hU => ?_)
      refine AnyU.loadc (i := 0) (d := 6) [6] (Si := fun w' => Blk w' w.heap.size #[.slice ia u.imps.length ic, .slice la u.lines.length lc] 44) (v := ?_) rfl (by kernel_rfl) (by kernel_rfl) (by kernel_rfl) (fun _ _ _ h => h) (by kernel_rfl) (by assumption) (by kernel_rfl) rfl (by simp) (by rfl) ?_ (fun hV => ?_)
      rotate_left 1
      · (intro wq hq; obtain ⟨u0, u1⟩ := cellsT2 hq; have ul := hq.lt; go_simp; try with_reducible rfl)
      clear hU; have hU := hV; clear hV
      try simp only [Act.put, aput]
      refine AnyU.take (i := 2) (v := ?_) rfl (by kernel_rfl) (by kernel_rfl) (by kernel_rfl) (fun _ _ _ h => h) (by kernel_rfl) (by assumption) (by rfl) ?_ (fun hV => ?_)
      rotate_left 1
      · (intro wq; go_simp; try with_reducible rfl)
      clear hU; have hU := hV; clear hV
      try simp only [Act.put, aput]
      refine AnyU.take (i := 4) (v := ?_) rfl (by kernel_rfl) (by kernel_rfl) (by kernel_rfl) (fun _ _ _ h => h) (by kernel_rfl) (by assumption) (by rfl) ?_ (fun hV => ?_)
      rotate_left 1
      · (intro wq; go_simp; try with_reducible rfl)
      clear hU; have hU := hV; clear hV
      try simp only [Act.put, aput]
      refine AnyU.ready1 (i := 1) (by kernel_rfl) (AnyU.one rfl fun K hK => ?_)
      go_simp
      have hm := made0 wqa
      generalize (wqa.alloc (.cells #[] 33)).drew = X1 at hm ⊢
      have M1 := Lib.hid hm
      clear hm
      refine hK.out _ _ (Until.cons (fun _ => DDb.out.under M1.out.2 DDb.out.lt) Until.nil) (fun hV => ?_)
      clear hK K
      clear hU; have hU := hV; clear hV
      try simp only [Act.put, aput]
      refine AnyU.ready1 (i := 3) (by kernel_rfl) (AnyU.one rfl fun K hK => ?_)
      refine step_append_ifs (by rfl) _ _ (by rfl) wqa.heap.size _ 0 [] (by rfl) M1.out.1 A' y.length c' B fxb (by rfl) (RX.out.keep fun _ hp => M1.out.2.cell (Nat.lt_of_lt_of_le hp hBw)) (fun i hi => (NX.out i hi).size) (fun i hi => (NX.out i hi).one) (by have := LEN.out; omega) M1.out.2.size ?_
      intro v1 X2 hown hb
      have M2 := Lib.hid (And.intro hown (M1.out.2.trans hb))
      clear hown hb
      refine hK.out _ _ (Until.cons (fun _ => DDb.out.under M2.out.2 DDb.out.lt) Until.nil) (fun hV => ?_)
      clear hK K
      clear hU; have hU := hV; clear hV
      try simp only [Act.put, aput]
      refine AnyU.ready1 (i := 5) (by kernel_rfl) (AnyU.one rfl fun K hK => ?_)
      refine step_append_ifs (by rfl) _ _ (by rfl) wqa.heap.size _ (0 + y.length) _ (by rfl) M2.out.1 A2 r.length c2 B frb (by rfl) (RR.out.keep fun _ hp => M2.out.2.cell (Nat.lt_of_lt_of_le hp hBw)) (fun i hi => (NR.out i hi).size) (fun i hi => (NR.out i hi).one) (by have := LEN.out; omega) M2.out.2.size ?_
      intro v2 X3 hown hb
      have hbx := M2.out.2.trans hb
      obtain ⟨A3, cap3, rfl, hcap3, hifs⟩ := app_ifs NX.out NR.out hbx hBw (Nat.le_refl _) hown
      have hall := few_app E2.out E4.out
      have hll : (y ++ r).length ≤ 1000000 := by rw [List.length_append]; have := LEN.out; omega
      obtain ⟨L, hL⟩ : ∃ L, y ++ r = L := ⟨_, rfl⟩
      rw [hL] at hcap3 hifs hall hll ⊢
      have CK := Lib.hid (usesCheck_c u L ia ic la lc A3 cap3 X3.heap.size X3 (((H3.out.under ((BBb.out.trans (hbx.mono BBb.out.size)).mono hB)).few (E3.out trivial)).mono (Nat.le_trans hBw hbx.size)) (envI_all hifs hcap3 hll hall) (Nat.le_refl _))
      have LLb := Lib.hid hL
      have M3 := Lib.hid hbx
      clear hown hb hbx hcap3 hifs hall hll hL
      refine hK.out _ _ (Until.cons (fun _ => DDb.out.under M3.out DDb.out.lt) Until.nil) (fun hV => ?_)
      clear hK K
      clear hU; have hU := hV; clear hV
      try simp only [Act.put, aput]
      refine AnyU.ready1 (i := 6) (by kernel_rfl) (AnyU.one rfl fun K hK => ?_)
      go_simp
      go_at_call 19
      refine CK.out.mono ?_
      rintro e wqb ⟨vqb, rfl, hb, hq⟩
      have QQb := Lib.hid hq
      have M4 := Lib.hid (M3.out.trans (hb.mono M3.out.size))
      clear hq hb
      refine hK.out _ _ (Until.off (by kernel_rfl)) (fun hV => ?_)
      clear hK K
      clear hU; have hU := hV; clear hV
      try simp only [Act.put, aput]
      refine AnyU.take (i := 7) (v := ?_) rfl (by kernel_rfl) (by kernel_rfl) (by kernel_rfl) (fun _ _ _ h => h) (by kernel_rfl) (by assumption) (by rfl) ?_ (fun hV => ?_)
      rotate_left 1
      · (intro wq; go_simp; try with_reducible rfl)
      clear hU; have hU := hV; clear hV
      try simp only [Act.put, aput]
      refine AnyU.done (by kernel_rfl) ?_
      have DDnb := Lib.hid (DDb.out.under M4.out DDb.out.lt)
      have BBnb := Lib.hid (BBb.out.trans (M4.out.mono BBb.out.size))
      clear M1 M2 M3 M4 CK hU RX RR NX NR LEN hBw
      have hsafe : UsesOk u (x ++ r) → UsesOk u (y ++ r) := fun h => safe_law HF.out.1 hx0 HF.out.2 (by rw [hz]; exact HNP.out) (by omega) h
      rw [LLa.out, LLb.out] at hsafe
      rcases QQa.out with ⟨rfl, q1⟩ | ⟨⟨T1, p1, rfl⟩, q1⟩
      · rcases QQb.out with ⟨rfl, q2⟩ | ⟨-, q2⟩
        · clear q1 q2 hsafe
          go_wp2_with fail
          go_ret
          exact ⟨rfl, BBnb.out⟩
        · exact absurd (hsafe q1) q2
      · rcases QQb.out with ⟨rfl, q2⟩ | ⟨⟨T2, p2, rfl⟩, q2⟩
        all_goals
          clear q1 q2 hsafe
          go_wp2_with fail
          go_ret
          exact ⟨rfl, BBnb.out⟩
end Go.Proofs.YtjeldfipipkfiaaGreat
