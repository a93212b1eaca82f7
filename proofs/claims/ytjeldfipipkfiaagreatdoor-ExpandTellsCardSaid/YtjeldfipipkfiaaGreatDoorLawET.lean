/- The statement ExpandTells: the law's walk. -/
import Derived.Test.YtjeldfipipkfiaaGreatDoorLawEA
import Derived.Test.YtjeldfipipkfiaaGreatDoorRfAll
namespace Go.Proofs.YtjeldfipipkfiaaGreatDoor
open Go.RowKit
set_option linter.unusedSimpArgs false
set_option linter.unusedVariables false
theorem few_hmany {m : Mdl} (h : fewM m = true) : ∀ d ∈ m.decls, manyT d.ty ≤ 1000000000 := by
  simp only [fewM, Bool.and_eq_true, decide_eq_true_eq, List.all_eq_true] at h
  intro d hd
  have hf := h.2.2.2 d hd
  simp only [fewD, Bool.and_eq_true] at hf
  have := few_many d.ty (by first | exact hf | exact hf.1 | exact hf.2)
  omega
set_option maxRecDepth 100000 in
set_option maxHeartbeats 40000000 in
theorem expandTells_c (m : Mdl) (ia : Option Addr) (ic : Nat) (da : Option Addr) (dc : Nat) (pkg : ByteArray) (j : Int) (env : List If) (ea : Option Addr) (ec : Nat) (t : Ty) (cs : Array Value) (w : World) (hm : MdlC w w.heap.size m ia ic da dc) (hp : pkg.size ≤ maxLen) (hj1 : -9223372036854775808 ≤ j) (hj2 : j ≤ 9223372036854775807)
    (he : IfsAt w w.heap.size ea env) (hec : env.length ≤ ec) (hel : env.length ≤ maxLen) (ht : TyC w w.heap.size t cs) :
    Calls Tryz.prog 6 #[.agg (mdlCells m ia ic da dc), .string pkg, .int .i64 j, .slice ea env.length ec, .agg cs] w fun e w' => e = .returned (.bool true) ∧ Below w.heap.size w w' := by
  obtain ⟨na, nc, sa, sc, f0, rfl, -⟩ := ht.inv
  have HM := Lib.hid hm
  have HE := Lib.hid he
  have HT := Lib.hid ht
  have hfe := fun W (hb : Below w.heap.size w W) => fewM_c m ia ic da dc w.heap.size W (hm.under hb) hb.size
  have hft := fun W (hb : Below w.heap.size w W) => Few_c t _ w.heap.size W (ht.under hb) hb.size
  have hfi := fun W (hb : Below w.heap.size w W) => FewI_c env ea ec w.heap.size W (he.under hb) hb.size hel
  have hcm := fun W (hb : Below w.heap.size w W) hf => copyM_c m ia ic da dc w.heap.size W (hm.under hb) hb.size hf
  have hct := fun W (hb : Below w.heap.size w W) hf => copy_c t _ w.heap.size W (ht.under hb) hb.size hf
  have hpl := fun W (hb : Below w.heap.size w W) => Plain_c t _ w.heap.size W (ht.under hb) hb.size
  simp only [mdlCells, tyCells] at hfe hft hcm hct hpl ⊢
  have HFE := Lib.hid hfe
  have HFT := Lib.hid hft
  have HFI := Lib.hid hfi
  have HCM := Lib.hid hcm
  have HCT := Lib.hid hct
  have HPL := Lib.hid hpl
  obtain ⟨q1, h1⟩ : ∃ q, fewM m = q := ⟨_, rfl⟩
  obtain ⟨q2, h2⟩ : ∃ q, FewB t = q := ⟨_, rfl⟩
  obtain ⟨q3, h3⟩ : ∃ q, FewI env = q := ⟨_, rfl⟩
  simp only [h1] at HFE HCM
  simp only [h2] at HFT
  simp only [h3] at HFI
  have H1 := Lib.hid h1
  have H2 := Lib.hid h2
  have H3 := Lib.hid h3
  have HP := Lib.hid hp
  clear hfe hft hfi hcm hct hpl hm he ht h1 h2 h3 hp hel
  go_enter Tryz.func6, Tryz.ntmps6
  go_upto_region 1 with fail
  obtain ⟨d0, d1, hz, hb⟩ := twoE w #[.string m.name, .slice ia m.imps.length ic, .slice da m.decls.length dc] #[.int .i64 t.kind, .string t.pkg, .int .i64 t.major, .string t.mod, .string t.name, .slice na t.names.length nc, .slice sa t.subs.length sc] 25 29
  generalize ((w.alloc (.cells #[.string m.name, .slice ia m.imps.length ic, .slice da m.decls.length dc] 25)).alloc (.cells #[.int .i64 t.kind, .string t.pkg, .int .i64 t.major, .string t.mod, .string t.name, .slice na t.names.length nc, .slice sa t.subs.length sc] 29)) = W at hb d0 d1 hz ⊢
  have D0 := Lib.hid d0
  have D1 := Lib.hid d1
  have BC := Lib.hid hb
  clear d0 d1 hb
  obtain ⟨m0, m1, m2⟩ := cellsT3 D0.out
  have ml := D0.out.lt
  obtain ⟨k0, k1, k2, k3, k4, k5, k6⟩ := cellsT7 D1.out
  have kl := D1.out.lt
  go_upto_region 5 with (first
    | (go_at_call 25; refine (up8_c _).mono ?_; rintro e wn ⟨rfl, hb⟩; have D0 := Lib.hid (D0.out.under hb D0.out.lt); have D1 := Lib.hid (D1.out.under hb D1.out.lt); have BC := Lib.hid (BC.out.trans (hb.mono BC.out.size)); clear hb; clear m0 m1 m2 k0 k1 k2 k3 k4 k5 k6 ml kl; obtain ⟨m0, m1, m2⟩ := cellsT3 D0.out; have ml := D0.out.lt; obtain ⟨k0, k1, k2, k3, k4, k5, k6⟩ := cellsT7 D1.out; have kl := D1.out.lt)
    | (go_at_call 13; refine (HFE.out _ BC.out).mono ?_; rintro e wn ⟨rfl, hb⟩; have D0 := Lib.hid (D0.out.under hb D0.out.lt); have D1 := Lib.hid (D1.out.under hb D1.out.lt); have BC := Lib.hid (BC.out.trans (hb.mono BC.out.size)); clear hb; clear m0 m1 m2 k0 k1 k2 k3 k4 k5 k6 ml kl; obtain ⟨m0, m1, m2⟩ := cellsT3 D0.out; have ml := D0.out.lt; obtain ⟨k0, k1, k2, k3, k4, k5, k6⟩ := cellsT7 D1.out; have kl := D1.out.lt)
    | (go_at_call 14; refine (HFT.out _ BC.out).mono ?_; rintro e wn ⟨rfl, hb⟩; have D0 := Lib.hid (D0.out.under hb D0.out.lt); have D1 := Lib.hid (D1.out.under hb D1.out.lt); have BC := Lib.hid (BC.out.trans (hb.mono BC.out.size)); clear hb; clear m0 m1 m2 k0 k1 k2 k3 k4 k5 k6 ml kl; obtain ⟨m0, m1, m2⟩ := cellsT3 D0.out; have ml := D0.out.lt; obtain ⟨k0, k1, k2, k3, k4, k5, k6⟩ := cellsT7 D1.out; have kl := D1.out.lt)
    | (go_at_call 26; refine (HFI.out _ BC.out).mono ?_; rintro e wn ⟨rfl, hb⟩; have D0 := Lib.hid (D0.out.under hb D0.out.lt); have D1 := Lib.hid (D1.out.under hb D1.out.lt); have BC := Lib.hid (BC.out.trans (hb.mono BC.out.size)); clear hb; clear m0 m1 m2 k0 k1 k2 k3 k4 k5 k6 ml kl; obtain ⟨m0, m1, m2⟩ := cellsT3 D0.out; have ml := D0.out.lt; obtain ⟨k0, k1, k2, k3, k4, k5, k6⟩ := cellsT7 D1.out; have kl := D1.out.lt))
  cases q1
  · go_wp2_with fail
    go_ret
    exact ⟨rfl, BC.out⟩
  cases q2
  · go_wp2_with fail
    go_ret
    exact ⟨rfl, BC.out⟩
  cases q3
  · go_wp2_with fail
    go_ret
    exact ⟨rfl, BC.out⟩
  by_cases h5 : 500 < (pkg.size : Int)
  · go_wp2_with fail
    go_ret
    exact ⟨rfl, BC.out⟩
  have hfm := H1.out
  simp only [fewM, Bool.and_eq_true, decide_eq_true_eq] at hfm
  have hni : m.imps.length ≤ 1000000 := by omega
  obtain ⟨hel2, hef⟩ := fewI_len H3.out
  have HL0 := Lib.hid (Below.refl wn.heap.size wn)
  have HEF := Lib.hid hef
  clear hfm hef HFE HFT HFI HCM HCT HPL
  go_wp2_with fail
  go_loopw [15] (fun iv wr => ∃ k : Nat, k ≤ m.imps.length ∧ iv = .int .i64 k ∧ Below w.heap.size w wr ∧ Blk wr w.heap.size #[.string m.name, .slice ia m.imps.length ic, .slice da m.decls.length dc] 25 ∧ Blk wr (w.heap.size + 1) #[.int .i64 t.kind, .string t.pkg, .int .i64 t.major, .string t.mod, .string t.name, .slice na t.names.length nc, .slice sa t.subs.length sc] 29) (fun iv _ => m.imps.length - (intOf iv).toNat)
  case atStart => exact ⟨0, Nat.zero_le _, rfl, BC.out, D0.out, D1.out⟩
  case round =>
    rename World => wr
    clear m0 m1 m2 ml k0 k1 k2 k3 k4 k5 k6 kl D0 D1 BC
    obtain ⟨k, hk, rfl, hbr, hd0, hd1⟩ := hrel
    have D0 := Lib.hid hd0
    have D1 := Lib.hid hd1
    have BC := Lib.hid hbr
    clear hbr hd0 hd1
    obtain ⟨m0, m1, m2⟩ := cellsT3 D0.out
    have ml := D0.out.lt
    obtain ⟨k0, k1, k2, k3, k4, k5, k6⟩ := cellsT7 D1.out
    have kl := D1.out.lt
    by_cases hlt : k < m.imps.length
    · obtain ⟨i, hi⟩ : ∃ i, m.imps[k] = i := ⟨_, rfl⟩
      obtain ⟨hfi, b, o, hia, hbB, c0, c1, c2, c3⟩ := (HM.out.under BC.out).imps.elem hlt hi
      obtain rfl := hia
      have lb : b < wr.heap.size := by have := BC.out.size; omega
      have hkI : (k : Int) < (m.imps.length : Int) := by omega
      have hk0 : (0 : Int) ≤ (k : Int) := by omega
      clear hfi hi hbB
      have hfd := eFind_c env i ea ec w.heap.size wr (HE.out.under BC.out) BC.out.size (by omega)
      obtain ⟨f, hf⟩ : ∃ f, (env.find? (isIf i)).getD zIfx = f := ⟨_, rfl⟩
      obtain ⟨is, his⟩ : ∃ q, (env.find? (isIf i)).isSome = q := ⟨_, rfl⟩
      simp only [hf, his, impCells] at hfd
      have HFD := Lib.hid hfd
      have HF := Lib.hid hf
      have HIS := Lib.hid his
      have kf := fun W' (hb : Below w.heap.size w W') => refFind_b ea ec w.heap.size env i W' (HE.out.under hb) hb.size (by omega)
      obtain ⟨pe, hpe⟩ : ∃ q, posE env i = q := ⟨_, rfl⟩
      simp only [hpe] at kf
      have HKF := Lib.hid kf
      have HPE := Lib.hid hpe
      clear hfd hf his kf hpe
      go_upto_region 11 with (go_at_call 27; refine (HFD.out).mono ?_; rintro e wn ⟨cs5, rfl, hic, hb⟩; obtain ⟨hff, ta5, tc5, va5, vc5, rfl, -⟩ := hic; simp only [ifCells]; have c0 := (hb.cell (p := ⟨b, o + k * 4, none⟩) lb).trans c0; have c1 := (hb.cell (p := ⟨b, o + k * 4 + 1, none⟩) lb).trans c1; have c2 := (hb.cell (p := ⟨b, o + k * 4 + 2, none⟩) lb).trans c2; have c3 := (hb.cell (p := ⟨b, o + k * 4 + 3, none⟩) lb).trans c3; have lb := Nat.lt_of_lt_of_le lb hb.size; clear hff; have D0 := Lib.hid (D0.out.under hb D0.out.lt); have D1 := Lib.hid (D1.out.under hb D1.out.lt); have BC := Lib.hid (BC.out.trans (hb.mono BC.out.size)); clear hb; clear m0 m1 m2 k0 k1 k2 k3 k4 k5 k6 ml kl; obtain ⟨m0, m1, m2⟩ := cellsT3 D0.out; have ml := D0.out.lt; obtain ⟨k0, k1, k2, k3, k4, k5, k6⟩ := cellsT7 D1.out; have kl := D1.out.lt)
      clear m0 m1 m2 k0 k1 k2 k3 k4 k5 k6 ml kl
      obtain ⟨bN, hb, hzN⟩ := laidN wn #[.string f.pkg, .int .i64 f.major, .string f.mod, .slice ta5 f.types.length tc5, .slice va5 f.vals.length vc5] 51
      generalize (wn.alloc (.cells #[.string f.pkg, .int .i64 f.major, .string f.mod, .slice ta5 f.types.length tc5, .slice va5 f.vals.length vc5] 51)) = W5 at bN hb hzN ⊢
      have c0 := (hb.cell (p := ⟨b, o + k * 4, none⟩) lb).trans c0
      have c1 := (hb.cell (p := ⟨b, o + k * 4 + 1, none⟩) lb).trans c1
      have c2 := (hb.cell (p := ⟨b, o + k * 4 + 2, none⟩) lb).trans c2
      have c3 := (hb.cell (p := ⟨b, o + k * 4 + 3, none⟩) lb).trans c3
      have lb := Nat.lt_of_lt_of_le lb hb.size
      have D0 := Lib.hid (D0.out.under hb D0.out.lt)
      have D1 := Lib.hid (D1.out.under hb D1.out.lt)
      have BC := Lib.hid (BC.out.trans (hb.mono BC.out.size))
      have D5 := Lib.hid bN
      clear bN hb hzN
      obtain ⟨m0, m1, m2⟩ := cellsT3 D0.out
      have ml := D0.out.lt
      obtain ⟨k0, k1, k2, k3, k4, k5, k6⟩ := cellsT7 D1.out
      have kl := D1.out.lt
      obtain ⟨y0, y1, y2, y3, y4⟩ := cellsT5 D5.out
      have yl := D5.out.lt
      refine wp_region_until [(19, fun w' => w'.cell? ⟨w.heap.size, 1, none⟩ = some (.slice (some ⟨b, o, none⟩) m.imps.length ic) ∧ w'.cell? ⟨b, o + k * 4, none⟩ = some (.string i.pkg) ∧ w'.cell? ⟨b, o + k * 4 + 1, none⟩ = some (.int .i64 i.major) ∧ w'.cell? ⟨b, o + k * 4 + 2, none⟩ = some (.string i.mod))] (by kernel_rfl) (Until.cons (fun _ => ⟨m1, c0, c1, c2⟩) Until.nil) (fun hU => ?_)
      refine AnyU.take (i := 0) (v := ?_) rfl (by kernel_rfl) (by kernel_rfl) (by kernel_rfl) (fun _ _ _ h => h) (by kernel_rfl) (by assumption) (by rfl) ?_ (fun hV => ?_)
      rotate_left 1
      · (intro wq; go_simp; try with_reducible rfl)
      clear hU; have hU := hV; clear hV
      try simp only [Act.put, aput]
      refine AnyU.take (i := 1) (v := ?_) rfl (by kernel_rfl) (by kernel_rfl) (by kernel_rfl) (fun _ _ _ h => h) (by kernel_rfl) (by assumption) (by rfl) ?_ (fun hV => ?_)
      rotate_left 1
      · (intro wq; go_simp; try with_reducible rfl)
      clear hU; have hU := hV; clear hV
      try simp only [Act.put, aput]
      refine AnyU.loadc (i := 2) (d := 19) [4, 5, 6, 19] (Si := fun w' => w'.cell? ⟨w.heap.size, 1, none⟩ = some (.slice (some ⟨b, o, none⟩) m.imps.length ic) ∧ w'.cell? ⟨b, o + k * 4, none⟩ = some (.string i.pkg) ∧ w'.cell? ⟨b, o + k * 4 + 1, none⟩ = some (.int .i64 i.major) ∧ w'.cell? ⟨b, o + k * 4 + 2, none⟩ = some (.string i.mod)) (v := ?_) rfl (by kernel_rfl) (by kernel_rfl) (by kernel_rfl) (fun _ _ _ h => h) (by kernel_rfl) (by assumption) (by kernel_rfl) rfl (by simp) (by rfl) ?_ (fun hV => ?_)
      rotate_left 1
      · (intro wq hq; obtain ⟨u, -, -, -⟩ := hq; go_simp; try with_reducible rfl)
      clear hU; have hU := hV; clear hV
      try simp only [Act.put, aput]
      refine AnyU.take (i := 3) (v := ?_) rfl (by kernel_rfl) (by kernel_rfl) (by kernel_rfl) (fun _ _ _ h => h) (by kernel_rfl) (by assumption) (by rfl) ?_ (fun hV => ?_)
      rotate_left 1
      · (intro wq; go_simp; try with_reducible rfl)
      clear hU; have hU := hV; clear hV
      try simp only [Act.put, aput]
      refine AnyU.take (i := 4) (v := ?_) rfl (by kernel_rfl) (by kernel_rfl) (by kernel_rfl) (fun _ _ _ h => h) (by kernel_rfl) (by assumption) (by rfl) ?_ (fun hV => ?_)
      rotate_left 1
      · (intro wq; go_simp; try with_reducible rfl)
      clear hU; have hU := hV; clear hV
      try simp only [Act.put, aput]
      refine AnyU.take (i := 5) (v := ?_) rfl (by kernel_rfl) (by kernel_rfl) (by kernel_rfl) (fun _ _ _ h => h) (by kernel_rfl) (by assumption) (by rfl) ?_ (fun hV => ?_)
      rotate_left 1
      · (intro wq; go_simp; try with_reducible rfl)
      clear hU; have hU := hV; clear hV
      try simp only [Act.put, aput]
      refine AnyU.loadc (i := 6) (d := 19) [19] (Si := fun w' => w'.cell? ⟨w.heap.size, 1, none⟩ = some (.slice (some ⟨b, o, none⟩) m.imps.length ic) ∧ w'.cell? ⟨b, o + k * 4, none⟩ = some (.string i.pkg) ∧ w'.cell? ⟨b, o + k * 4 + 1, none⟩ = some (.int .i64 i.major) ∧ w'.cell? ⟨b, o + k * 4 + 2, none⟩ = some (.string i.mod)) (v := ?_) rfl (by kernel_rfl) (by kernel_rfl) (by kernel_rfl) (fun _ _ _ h => h) (by kernel_rfl) (by assumption) (by kernel_rfl) rfl (by simp) (by rfl) ?_ (fun hV => ?_)
      rotate_left 1
      · (intro wq hq; obtain ⟨-, u, -, -⟩ := hq; go_simp; try with_reducible rfl)
      clear hU; have hU := hV; clear hV
      try simp only [Act.put, aput]
      refine AnyU.take (i := 7) (v := ?_) rfl (by kernel_rfl) (by kernel_rfl) (by kernel_rfl) (fun _ _ _ h => h) (by kernel_rfl) (by assumption) (by rfl) ?_ (fun hV => ?_)
      rotate_left 1
      · (intro wq; go_simp; try with_reducible rfl)
      clear hU; have hU := hV; clear hV
      try simp only [Act.put, aput]
      refine AnyU.loadc (i := 8) (d := 19) [10, 11, 12, 19] (Si := fun w' => w'.cell? ⟨w.heap.size, 1, none⟩ = some (.slice (some ⟨b, o, none⟩) m.imps.length ic) ∧ w'.cell? ⟨b, o + k * 4, none⟩ = some (.string i.pkg) ∧ w'.cell? ⟨b, o + k * 4 + 1, none⟩ = some (.int .i64 i.major) ∧ w'.cell? ⟨b, o + k * 4 + 2, none⟩ = some (.string i.mod)) (v := ?_) rfl (by kernel_rfl) (by kernel_rfl) (by kernel_rfl) (fun _ _ _ h => h) (by kernel_rfl) (by assumption) (by kernel_rfl) rfl (by simp) (by rfl) ?_ (fun hV => ?_)
      rotate_left 1
      · (intro wq hq; obtain ⟨u, -, -, -⟩ := hq; go_simp; try with_reducible rfl)
      clear hU; have hU := hV; clear hV
      try simp only [Act.put, aput]
      refine AnyU.take (i := 9) (v := ?_) rfl (by kernel_rfl) (by kernel_rfl) (by kernel_rfl) (fun _ _ _ h => h) (by kernel_rfl) (by assumption) (by rfl) ?_ (fun hV => ?_)
      rotate_left 1
      · (intro wq; go_simp; try with_reducible rfl)
      clear hU; have hU := hV; clear hV
      try simp only [Act.put, aput]
      refine AnyU.take (i := 10) (v := ?_) rfl (by kernel_rfl) (by kernel_rfl) (by kernel_rfl) (fun _ _ _ h => h) (by kernel_rfl) (by assumption) (by rfl) ?_ (fun hV => ?_)
      rotate_left 1
      · (intro wq; go_simp; try with_reducible rfl)
      clear hU; have hU := hV; clear hV
      try simp only [Act.put, aput]
      refine AnyU.take (i := 11) (v := ?_) rfl (by kernel_rfl) (by kernel_rfl) (by kernel_rfl) (fun _ _ _ h => h) (by kernel_rfl) (by assumption) (by rfl) ?_ (fun hV => ?_)
      rotate_left 1
      · (intro wq; go_simp; try with_reducible rfl)
      clear hU; have hU := hV; clear hV
      try simp only [Act.put, aput]
      refine AnyU.loadc (i := 12) (d := 19) [19] (Si := fun w' => w'.cell? ⟨w.heap.size, 1, none⟩ = some (.slice (some ⟨b, o, none⟩) m.imps.length ic) ∧ w'.cell? ⟨b, o + k * 4, none⟩ = some (.string i.pkg) ∧ w'.cell? ⟨b, o + k * 4 + 1, none⟩ = some (.int .i64 i.major) ∧ w'.cell? ⟨b, o + k * 4 + 2, none⟩ = some (.string i.mod)) (v := ?_) rfl (by kernel_rfl) (by kernel_rfl) (by kernel_rfl) (fun _ _ _ h => h) (by kernel_rfl) (by assumption) (by kernel_rfl) rfl (by simp) (by rfl) ?_ (fun hV => ?_)
      rotate_left 1
      · (intro wq hq; obtain ⟨-, -, u, -⟩ := hq; go_simp; try with_reducible rfl)
      clear hU; have hU := hV; clear hV
      try simp only [Act.put, aput]
      refine AnyU.take (i := 13) (v := ?_) rfl (by kernel_rfl) (by kernel_rfl) (by kernel_rfl) (fun _ _ _ h => h) (by kernel_rfl) (by assumption) (by rfl) ?_ (fun hV => ?_)
      rotate_left 1
      · (intro wq; go_simp; try with_reducible rfl)
      clear hU; have hU := hV; clear hV
      try simp only [Act.put, aput]
      refine AnyU.loadc (i := 14) (d := 19) [16, 17, 18, 19] (Si := fun w' => w'.cell? ⟨w.heap.size, 1, none⟩ = some (.slice (some ⟨b, o, none⟩) m.imps.length ic) ∧ w'.cell? ⟨b, o + k * 4, none⟩ = some (.string i.pkg) ∧ w'.cell? ⟨b, o + k * 4 + 1, none⟩ = some (.int .i64 i.major) ∧ w'.cell? ⟨b, o + k * 4 + 2, none⟩ = some (.string i.mod)) (v := ?_) rfl (by kernel_rfl) (by kernel_rfl) (by kernel_rfl) (fun _ _ _ h => h) (by kernel_rfl) (by assumption) (by kernel_rfl) rfl (by simp) (by rfl) ?_ (fun hV => ?_)
      rotate_left 1
      · (intro wq hq; obtain ⟨u, -, -, -⟩ := hq; go_simp; try with_reducible rfl)
      clear hU; have hU := hV; clear hV
      try simp only [Act.put, aput]
      refine AnyU.take (i := 15) (v := ?_) rfl (by kernel_rfl) (by kernel_rfl) (by kernel_rfl) (fun _ _ _ h => h) (by kernel_rfl) (by assumption) (by rfl) ?_ (fun hV => ?_)
      rotate_left 1
      · (intro wq; go_simp; try with_reducible rfl)
      clear hU; have hU := hV; clear hV
      try simp only [Act.put, aput]
      refine AnyU.take (i := 16) (v := ?_) rfl (by kernel_rfl) (by kernel_rfl) (by kernel_rfl) (fun _ _ _ h => h) (by kernel_rfl) (by assumption) (by rfl) ?_ (fun hV => ?_)
      rotate_left 1
      · (intro wq; go_simp; try with_reducible rfl)
      clear hU; have hU := hV; clear hV
      try simp only [Act.put, aput]
      refine AnyU.take (i := 17) (v := ?_) rfl (by kernel_rfl) (by kernel_rfl) (by kernel_rfl) (fun _ _ _ h => h) (by kernel_rfl) (by assumption) (by rfl) ?_ (fun hV => ?_)
      rotate_left 1
      · (intro wq; go_simp; try with_reducible rfl)
      clear hU; have hU := hV; clear hV
      try simp only [Act.put, aput]
      refine AnyU.loadc (i := 18) (d := 19) [19] (Si := fun w' => w'.cell? ⟨w.heap.size, 1, none⟩ = some (.slice (some ⟨b, o, none⟩) m.imps.length ic) ∧ w'.cell? ⟨b, o + k * 4, none⟩ = some (.string i.pkg) ∧ w'.cell? ⟨b, o + k * 4 + 1, none⟩ = some (.int .i64 i.major) ∧ w'.cell? ⟨b, o + k * 4 + 2, none⟩ = some (.string i.mod)) (v := ?_) rfl (by kernel_rfl) (by kernel_rfl) (by kernel_rfl) (fun _ _ _ h => h) (by kernel_rfl) (by assumption) (by kernel_rfl) rfl (by simp) (by rfl) ?_ (fun hV => ?_)
      rotate_left 1
      · (intro wq hq; obtain ⟨-, -, -, u⟩ := hq; go_simp; try with_reducible rfl)
      clear hU; have hU := hV; clear hV
      try simp only [Act.put, aput]
      refine AnyU.ready1 (i := 19) (by kernel_rfl) (AnyU.one rfl fun K hK => ?_)
      go_simp
      go_at_call 28
      refine (HKF.out _ BC.out.drew).mono ?_
      rintro e w6 ⟨rfl, hb⟩
      have D0 := Lib.hid (D0.out.drew.under hb D0.out.lt)
      have D1 := Lib.hid (D1.out.drew.under hb D1.out.lt)
      have D5 := Lib.hid (D5.out.drew.under hb D5.out.lt)
      have BC := Lib.hid (BC.out.drew.trans (hb.mono BC.out.size))
      clear hb c0 c1 c2 c3 lb m0 m1 m2 k0 k1 k2 k3 k4 k5 k6 y0 y1 y2 y3 y4 ml kl yl
      refine hK.out _ _ (Until.offT (by kernel_rfl)) (fun hV => ?_)
      clear hK K hU
      have hU := hV
      clear hV
      try simp only [Act.put, aput]
      refine AnyU.take (i := 20) (v := ?_) rfl (by kernel_rfl) (by kernel_rfl) (by kernel_rfl) (fun _ _ _ h => h) (by kernel_rfl) (by assumption) (by rfl) ?_ (fun hV => ?_)
      rotate_left 1
      · (intro wq; go_simp; try with_reducible rfl)
      clear hU; have hU := hV; clear hV
      try simp only [Act.put, aput]
      refine AnyU.done (by kernel_rfl) ?_
      clear hU
      rcases posE_cases env i with ⟨hp, hnf⟩ | ⟨p, hpl, hp, hnf⟩
      · obtain rfl : pe = -1 := HPE.out.symm.trans hp
        obtain rfl : is = false := by rw [← HIS.out, hnf]; rfl
        clear hp hnf
        obtain ⟨m0, m1, m2⟩ := cellsT3 D0.out
        have ml := D0.out.lt
        obtain ⟨k0, k1, k2, k3, k4, k5, k6⟩ := cellsT7 D1.out
        have kl := D1.out.lt
        obtain ⟨y0, y1, y2, y3, y4⟩ := cellsT5 D5.out
        have yl := D5.out.lt
        go_upto_region 12 with fail
        go_quiet (fail)
        go_wp2_with fail
        first
          | exact ⟨⟨k + 1, by omega, by go_num, below_drewN BC.out _, D0.out, D1.out⟩, by simp [intOf]; omega⟩
          | (go_roundw
             case rel => exact ⟨k + 1, by omega, by go_num, below_drewN BC.out _, D0.out, D1.out⟩
             case measure => simp [intOf]; omega)
      · obtain rfl : pe = (p : Int) := HPE.out.symm.trans hp
        obtain rfl : is = true := by rw [← HIS.out, hnf]; rfl
        have hfp : env[p] = f := by rw [← HF.out, hnf]; rfl
        obtain ⟨ff, b2, o2, ta, tc, va, vc, hea, hbB2, hT, -, htc, -, g0, g1, g2, g3, g4⟩ := (HE.out.under BC.out).elem hpl hfp
        obtain rfl := hea
        have lb2 : b2 < w6.heap.size := by have := BC.out.size; omega
        have hp0 : (0 : Int) ≤ (p : Int) := by omega
        have hpl2 : (p : Int) < (env.length : Int) := by omega
        have hfl : f.types.length ≤ 200 := (HEF.out f (by rw [← hfp]; exact List.getElem_mem hpl)).1
        have HT6 := Lib.hid hT
        clear hp hnf hfp ff hT g1 g2 g4 hbB2
        obtain ⟨m0, m1, m2⟩ := cellsT3 D0.out
        have ml := D0.out.lt
        obtain ⟨k0, k1, k2, k3, k4, k5, k6⟩ := cellsT7 D1.out
        have kl := D1.out.lt
        obtain ⟨y0, y1, y2, y3, y4⟩ := cellsT5 D5.out
        have yl := D5.out.lt
        go_upto_region 12 with fail
        go_quiet (fail)
        go_upto_region 15 with fail
        have hb7 := below_drewN (Below.refl w6.heap.size w6) nq
        generalize w6.drewN nq = W7 at hb7 ⊢
        clear m0 m1 m2 k0 k1 k2 k3 k4 k5 k6 y0 y1 y2 y3 y4 ml kl yl
        have g3 := (hb7.cell (p := ⟨b2, o2 + p * 5 + 3, none⟩) lb2).trans g3
        have HT6 := Lib.hid (HT6.out.under (hb7.mono BC.out.size))
        have lb2 := Nat.lt_of_lt_of_le lb2 hb7.size
        have D0 := Lib.hid (D0.out.under hb7 D0.out.lt)
        have D1 := Lib.hid (D1.out.under hb7 D1.out.lt)
        have BC := Lib.hid (BC.out.trans (hb7.mono BC.out.size))
        clear hb7 g0
        obtain ⟨m0, m1, m2⟩ := cellsT3 D0.out
        have ml := D0.out.lt
        obtain ⟨k0, k1, k2, k3, k4, k5, k6⟩ := cellsT7 D1.out
        have kl := D1.out.lt
        obtain ⟨s, hs⟩ : ∃ s, ((f.types.find? (isNm t.name)).map Nm.ty).getD zT = s := ⟨_, rfl⟩
        obtain ⟨is2, his2⟩ : ∃ q, (f.types.find? (isNm t.name)).isSome = q := ⟨_, rfl⟩
        have hof := fun W' (hb : Below W7.heap.size W7 W') => eOf_c f.types t.name ta tc w.heap.size W' (HT6.out.under (hb.mono BC.out.size)) (Nat.le_trans BC.out.size hb.size) (by omega)
        simp only [hs, his2] at hof
        have HOF := Lib.hid hof
        obtain ⟨po, hpo⟩ : ∃ q, ofN f.types t.name = q := ⟨_, rfl⟩
        have hro := fun W' (hb : Below w.heap.size w W') (hT : NmsAt W' w.heap.size ta f.types) => refOfN_b ta tc w.heap.size f.types t.name W' hT hb.size (by omega)
        simp only [hpo] at hro
        have HRO := Lib.hid hro
        have HS := Lib.hid hs
        have HIS2 := Lib.hid his2
        have HPO := Lib.hid hpo
        clear hof hro hs his2 hpo
        go_cut [19, 20] (fun pv q w9 => ∃ (b8 : Nat) (na8 : Option Addr) (nc8 : Nat) (sa8 : Option Addr) (sc8 : Nat), pv = .pointer (some ⟨b8, 0, none⟩) ∧ q = .bool is2 ∧ Blk w9 b8 #[.int .i64 s.kind, .string s.pkg, .int .i64 s.major, .string s.mod, .string s.name, .slice na8 s.names.length nc8, .slice sa8 s.subs.length sc8] 29 ∧ TyC w9 w.heap.size s #[.int .i64 s.kind, .string s.pkg, .int .i64 s.major, .string s.mod, .string s.name, .slice na8 s.names.length nc8, .slice sa8 s.subs.length sc8] ∧ Below W7.heap.size W7 w9)
        case first =>
          refine wp_region_until [(7, fun w' => w'.cell? ⟨b2, o2 + p * 5 + 3, none⟩ = some (.slice ta f.types.length tc) ∧ w'.cell? ⟨w.heap.size + 1, 4, none⟩ = some (.string t.name))] (by kernel_rfl) (Until.cons (fun _ => ⟨g3, k4⟩) Until.nil) (fun hU => ?_)
          refine AnyU.take (i := 0) (v := ?_) rfl (by kernel_rfl) (by kernel_rfl) (by kernel_rfl) (fun _ _ _ h => h) (by kernel_rfl) (by assumption) (by rfl) ?_ (fun hV => ?_)
          rotate_left 1
          · (intro wq; go_simp; try with_reducible rfl)
          clear hU; have hU := hV; clear hV
          try simp only [Act.put, aput]
          refine AnyU.take (i := 1) (v := ?_) rfl (by kernel_rfl) (by kernel_rfl) (by kernel_rfl) (fun _ _ _ h => h) (by kernel_rfl) (by assumption) (by rfl) ?_ (fun hV => ?_)
          rotate_left 1
          · (intro wq; go_simp; try with_reducible rfl)
          clear hU; have hU := hV; clear hV
          try simp only [Act.put, aput]
          refine AnyU.take (i := 2) (v := ?_) rfl (by kernel_rfl) (by kernel_rfl) (by kernel_rfl) (fun _ _ _ h => h) (by kernel_rfl) (by assumption) (by rfl) ?_ (fun hV => ?_)
          rotate_left 1
          · (intro wq; go_simp; try with_reducible rfl)
          clear hU; have hU := hV; clear hV
          try simp only [Act.put, aput]
          refine AnyU.take (i := 3) (v := ?_) rfl (by kernel_rfl) (by kernel_rfl) (by kernel_rfl) (fun _ _ _ h => h) (by kernel_rfl) (by assumption) (by rfl) ?_ (fun hV => ?_)
          rotate_left 1
          · (intro wq; go_simp; try with_reducible rfl)
          clear hU; have hU := hV; clear hV
          try simp only [Act.put, aput]
          refine AnyU.loadc (i := 4) (d := 7) [7] (Si := fun w' => w'.cell? ⟨b2, o2 + p * 5 + 3, none⟩ = some (.slice ta f.types.length tc) ∧ w'.cell? ⟨w.heap.size + 1, 4, none⟩ = some (.string t.name)) (v := ?_) rfl (by kernel_rfl) (by kernel_rfl) (by kernel_rfl) (fun _ _ _ h => h) (by kernel_rfl) (by assumption) (by kernel_rfl) rfl (by simp) (by rfl) ?_ (fun hV => ?_)
          rotate_left 1
          · (intro wq hq; obtain ⟨u, -⟩ := hq; go_simp; try with_reducible rfl)
          clear hU; have hU := hV; clear hV
          try simp only [Act.put, aput]
          refine AnyU.take (i := 5) (v := ?_) rfl (by kernel_rfl) (by kernel_rfl) (by kernel_rfl) (fun _ _ _ h => h) (by kernel_rfl) (by assumption) (by rfl) ?_ (fun hV => ?_)
          rotate_left 1
          · (intro wq; go_simp; try with_reducible rfl)
          clear hU; have hU := hV; clear hV
          try simp only [Act.put, aput]
          refine AnyU.loadc (i := 6) (d := 7) [7] (Si := fun w' => w'.cell? ⟨b2, o2 + p * 5 + 3, none⟩ = some (.slice ta f.types.length tc) ∧ w'.cell? ⟨w.heap.size + 1, 4, none⟩ = some (.string t.name)) (v := ?_) rfl (by kernel_rfl) (by kernel_rfl) (by kernel_rfl) (fun _ _ _ h => h) (by kernel_rfl) (by assumption) (by kernel_rfl) rfl (by simp) (by rfl) ?_ (fun hV => ?_)
          rotate_left 1
          · (intro wq hq; obtain ⟨-, u⟩ := hq; go_simp; try with_reducible rfl)
          clear hU; have hU := hV; clear hV
          try simp only [Act.put, aput]
          refine AnyU.ready2 (i := 7) (j := 11) (by kernel_rfl) (AnyU.one rfl fun K hK => ?_) (AnyU.one rfl fun K hK => ?_)
          · go_simp
            go_at_call 29
            refine (HOF.out _ (Below.refl W7.heap.size W7).drew).mono ?_
            rintro e w8 ⟨cs8, rfl, hty, hb⟩
            obtain ⟨na8, nc8, sa8, sc8, f8, rfl, -⟩ := hty.inv
            simp only [tyCells] at hty ⊢
            have hb2 : Below W7.heap.size W7 w8 := (Below.refl _ _).drew.trans hb
            clear hb g3 k4
            refine hK.out _ _ (Until.offT (by kernel_rfl)) (fun hV => ?_)
            clear hK K hU
            have hU := hV
            clear hV
            try simp only [Act.put, aput]
            refine AnyU.take (i := 8) (v := ?_) rfl (by kernel_rfl) (by kernel_rfl) (by kernel_rfl) (fun _ _ _ h => h) (by kernel_rfl) (by assumption) (by rfl) ?_ (fun hV => ?_)
            rotate_left 1
            · (intro wq; go_simp; try with_reducible rfl)
            clear hU; have hU := hV; clear hV
            try simp only [Act.put, aput]
            refine AnyU.take (i := 9) (v := ?_) rfl (by kernel_rfl) (by kernel_rfl) (by kernel_rfl) (fun _ _ _ h => h) (by kernel_rfl) (by assumption) (by rfl) ?_ (fun hV => ?_)
            rotate_left 1
            · (intro wq; go_simp; try with_reducible rfl)
            clear hU; have hU := hV; clear hV
            try simp only [Act.put, aput]
            refine AnyU.take (i := 10) (v := ?_) rfl (by kernel_rfl) (by kernel_rfl) (by kernel_rfl) (fun _ _ _ h => h) (by kernel_rfl) (by assumption) (by rfl) ?_ (fun hV => ?_)
            rotate_left 1
            · (intro wq; go_simp; try with_reducible rfl)
            clear hU; have hU := hV; clear hV
            try simp only [Act.put, aput]
            refine AnyU.ready1 (i := 11) (by kernel_rfl) (AnyU.one rfl fun K hK => ?_)
            go_simp
            obtain ⟨zb, hbz, hzs⟩ := laidN w8 #[.int .i64 0, .string { data := #[] }, .int .i64 0, .string { data := #[] }, .string { data := #[] }, .slice none 0 0, .slice none 0 0] 29
            generalize hX3 : w8.alloc (.cells #[.int .i64 0, .string { data := #[] }, .int .i64 0, .string { data := #[] }, .string { data := #[] }, .slice none 0 0, .slice none 0 0] 29) = X3 at zb hbz hzs ⊢
            clear hX3
            refine hK.out _ _ (Until.offT (by kernel_rfl)) (fun hV => ?_)
            clear hK K hU
            have hU := hV
            clear hV
            try simp only [Act.put, aput]
            have hbX : Below W7.heap.size W7 X3 := hb2.trans (hbz.mono hb2.size)
            have hgz : W7.heap.size ≤ w8.heap.size := hb2.size
            have hwz : w.heap.size ≤ w8.heap.size := Nat.le_trans BC.out.size hgz
            have hty := hty.under (hbz.mono hwz)
            obtain ⟨d0, d1, d2, d3, d4, d5, d6⟩ := cellsT7 zb
            have f0 := zb.free 0
            have f1 := zb.free 1
            have f2 := zb.free 2
            have f3 := zb.free 3
            have f4 := zb.free 4
            have f5 := zb.free 5
            have f6 := zb.free 6
            have ld := zb.lt
            refine AnyU.ready1 (i := 12) (by kernel_rfl) (AnyU.one rfl fun K hK => ?_)
            go_simp
            have hp := pf7 (.int .i64 s.kind) (.string s.pkg) (.int .i64 s.major) (.string s.mod) (.string s.name) (.slice na8 s.names.length nc8) (.slice sa8 s.subs.length sc8) zb
            have hbp := pb7 (.int .i64 s.kind) (.string s.pkg) (.int .i64 s.major) (.string s.mod) (.string s.name) (.slice na8 s.names.length nc8) (.slice sa8 s.subs.length sc8) hbX hgz
            have htf := hty.under (pb7 (.int .i64 s.kind) (.string s.pkg) (.int .i64 s.major) (.string s.mod) (.string s.name) (.slice na8 s.names.length nc8) (.slice sa8 s.subs.length sc8) (Below.refl w.heap.size X3) hwz)
            generalize (((((((X3.setCell ⟨w8.heap.size, 0, none⟩ (.int .i64 s.kind)).setCell ⟨w8.heap.size, 1, none⟩ (.string s.pkg)).setCell ⟨w8.heap.size, 2, none⟩ (.int .i64 s.major)).setCell ⟨w8.heap.size, 3, none⟩ (.string s.mod)).setCell ⟨w8.heap.size, 4, none⟩ (.string s.name)).setCell ⟨w8.heap.size, 5, none⟩ (.slice na8 s.names.length nc8)).setCell ⟨w8.heap.size, 6, none⟩ (.slice sa8 s.subs.length sc8)) = Wf at hp hbp htf ⊢
            refine hK.out _ _ (Until.offT (by kernel_rfl)) (fun hV => ?_)
            clear hK K hU
            have hU := hV
            clear hV
            try simp only [Act.put, aput]
            refine AnyU.take (i := 13) (v := ?_) rfl (by kernel_rfl) (by kernel_rfl) (by kernel_rfl) (fun _ _ _ h => h) (by kernel_rfl) (by assumption) (by rfl) ?_ (fun hV => ?_)
            rotate_left 1
            · (intro wq; go_simp; try with_reducible rfl)
            clear hU; have hU := hV; clear hV
            try simp only [Act.put, aput]
            refine AnyU.done (by kernel_rfl) ?_
            go_wp2_with fail
            go_meet
            exact ⟨_, na8, nc8, sa8, sc8, rfl, rfl, hp, htf, hbp⟩
          · go_simp
            obtain ⟨zb, hbz, hzs⟩ := laidD W7 #[.int .i64 0, .string { data := #[] }, .int .i64 0, .string { data := #[] }, .string { data := #[] }, .slice none 0 0, .slice none 0 0] 29
            generalize hX3 : (W7.alloc (.cells #[.int .i64 0, .string { data := #[] }, .int .i64 0, .string { data := #[] }, .string { data := #[] }, .slice none 0 0, .slice none 0 0] 29)).drew = X3 at zb hbz hzs ⊢
            clear hX3
            have g3 := (hbz.cell (p := ⟨b2, o2 + p * 5 + 3, none⟩) lb2).trans g3
            have k4 := (hbz.cell (p := ⟨w.heap.size + 1, 4, none⟩) kl).trans k4
            refine hK.out _ _ (Until.cons (fun _ => ⟨g3, k4⟩) Until.nil) (fun hV => ?_)
            clear hK K hU
            have hU := hV
            clear hV
            try simp only [Act.put, aput]
            refine AnyU.ready1 (i := 7) (by kernel_rfl) (AnyU.one rfl fun K hK => ?_)
            go_simp
            go_at_call 29
            refine (HOF.out _ hbz).mono ?_
            rintro e w8 ⟨cs8, rfl, hty, hb⟩
            obtain ⟨na8, nc8, sa8, sc8, f8, rfl, -⟩ := hty.inv
            simp only [tyCells] at hty ⊢
            have hbX : Below W7.heap.size W7 w8 := hbz.trans (hb.mono hbz.size)
            have zb := zb.under hb zb.lt
            have hwz : w.heap.size ≤ W7.heap.size := BC.out.size
            clear hb g3 k4
            refine hK.out _ _ (Until.offT (by kernel_rfl)) (fun hV => ?_)
            clear hK K hU
            have hU := hV
            clear hV
            try simp only [Act.put, aput]
            refine AnyU.take (i := 8) (v := ?_) rfl (by kernel_rfl) (by kernel_rfl) (by kernel_rfl) (fun _ _ _ h => h) (by kernel_rfl) (by assumption) (by rfl) ?_ (fun hV => ?_)
            rotate_left 1
            · (intro wq; go_simp; try with_reducible rfl)
            clear hU; have hU := hV; clear hV
            try simp only [Act.put, aput]
            refine AnyU.take (i := 9) (v := ?_) rfl (by kernel_rfl) (by kernel_rfl) (by kernel_rfl) (fun _ _ _ h => h) (by kernel_rfl) (by assumption) (by rfl) ?_ (fun hV => ?_)
            rotate_left 1
            · (intro wq; go_simp; try with_reducible rfl)
            clear hU; have hU := hV; clear hV
            try simp only [Act.put, aput]
            refine AnyU.take (i := 10) (v := ?_) rfl (by kernel_rfl) (by kernel_rfl) (by kernel_rfl) (fun _ _ _ h => h) (by kernel_rfl) (by assumption) (by rfl) ?_ (fun hV => ?_)
            rotate_left 1
            · (intro wq; go_simp; try with_reducible rfl)
            clear hU; have hU := hV; clear hV
            try simp only [Act.put, aput]
            obtain ⟨d0, d1, d2, d3, d4, d5, d6⟩ := cellsT7 zb
            have f0 := zb.free 0
            have f1 := zb.free 1
            have f2 := zb.free 2
            have f3 := zb.free 3
            have f4 := zb.free 4
            have f5 := zb.free 5
            have f6 := zb.free 6
            have ld := zb.lt
            refine AnyU.ready1 (i := 12) (by kernel_rfl) (AnyU.one rfl fun K hK => ?_)
            go_simp
            have hp := pf7 (.int .i64 s.kind) (.string s.pkg) (.int .i64 s.major) (.string s.mod) (.string s.name) (.slice na8 s.names.length nc8) (.slice sa8 s.subs.length sc8) zb
            have hbp := pb7 (.int .i64 s.kind) (.string s.pkg) (.int .i64 s.major) (.string s.mod) (.string s.name) (.slice na8 s.names.length nc8) (.slice sa8 s.subs.length sc8) hbX (Nat.le_refl _)
            have htf := hty.under (pb7 (.int .i64 s.kind) (.string s.pkg) (.int .i64 s.major) (.string s.mod) (.string s.name) (.slice na8 s.names.length nc8) (.slice sa8 s.subs.length sc8) (Below.refl w.heap.size w8) hwz)
            generalize (((((((w8.setCell ⟨W7.heap.size, 0, none⟩ (.int .i64 s.kind)).setCell ⟨W7.heap.size, 1, none⟩ (.string s.pkg)).setCell ⟨W7.heap.size, 2, none⟩ (.int .i64 s.major)).setCell ⟨W7.heap.size, 3, none⟩ (.string s.mod)).setCell ⟨W7.heap.size, 4, none⟩ (.string s.name)).setCell ⟨W7.heap.size, 5, none⟩ (.slice na8 s.names.length nc8)).setCell ⟨W7.heap.size, 6, none⟩ (.slice sa8 s.subs.length sc8)) = Wf at hp hbp htf ⊢
            refine hK.out _ _ (Until.offT (by kernel_rfl)) (fun hV => ?_)
            clear hK K hU
            have hU := hV
            clear hV
            try simp only [Act.put, aput]
            refine AnyU.take (i := 13) (v := ?_) rfl (by kernel_rfl) (by kernel_rfl) (by kernel_rfl) (fun _ _ _ h => h) (by kernel_rfl) (by assumption) (by rfl) ?_ (fun hV => ?_)
            rotate_left 1
            · (intro wq; go_simp; try with_reducible rfl)
            clear hU; have hU := hV; clear hV
            try simp only [Act.put, aput]
            refine AnyU.done (by kernel_rfl) ?_
            go_wp2_with fail
            go_meet
            exact ⟨_, na8, nc8, sa8, sc8, rfl, rfl, hp, htf, hbp⟩
        case rest =>
          rename World => w9
          obtain ⟨b8, na8, nc8, sa8, sc8, rfl, rfl, hb8, hty8, hb⟩ := hcut
          clear m0 m1 m2 k0 k1 k2 k3 k4 k5 k6 ml kl
          have D8 := Lib.hid hb8
          have HTY8 := Lib.hid hty8
          have g3 := (hb.cell (p := ⟨b2, o2 + p * 5 + 3, none⟩) lb2).trans g3
          have HT6 := Lib.hid (HT6.out.under (hb.mono BC.out.size))
          have lb2 := Nat.lt_of_lt_of_le lb2 hb.size
          have D0 := Lib.hid (D0.out.under hb D0.out.lt)
          have D1 := Lib.hid (D1.out.under hb D1.out.lt)
          have BC := Lib.hid (BC.out.trans (hb.mono BC.out.size))
          clear hb hb8 hty8
          obtain ⟨m0, m1, m2⟩ := cellsT3 D0.out
          have ml := D0.out.lt
          obtain ⟨k0, k1, k2, k3, k4, k5, k6⟩ := cellsT7 D1.out
          have kl := D1.out.lt
          obtain ⟨z0, z1, z2, z3, z4, z5, z6⟩ := cellsT7 D8.out
          have zl := D8.out.lt
          go_upto_region 16 with fail
          refine wp_region_until [(7, fun w' => w'.cell? ⟨b2, o2 + p * 5 + 3, none⟩ = some (.slice ta f.types.length tc) ∧ w'.cell? ⟨w.heap.size + 1, 4, none⟩ = some (.string t.name))] (by kernel_rfl) (Until.cons (fun _ => ⟨g3, k4⟩) Until.nil) (fun hU => ?_)
          refine AnyU.take (i := 0) (v := ?_) rfl (by kernel_rfl) (by kernel_rfl) (by kernel_rfl) (fun _ _ _ h => h) (by kernel_rfl) (by assumption) (by rfl) ?_ (fun hV => ?_)
          rotate_left 1
          · (intro wq; go_simp; try with_reducible rfl)
          clear hU; have hU := hV; clear hV
          try simp only [Act.put, aput]
          refine AnyU.take (i := 1) (v := ?_) rfl (by kernel_rfl) (by kernel_rfl) (by kernel_rfl) (fun _ _ _ h => h) (by kernel_rfl) (by assumption) (by rfl) ?_ (fun hV => ?_)
          rotate_left 1
          · (intro wq; go_simp; try with_reducible rfl)
          clear hU; have hU := hV; clear hV
          try simp only [Act.put, aput]
          refine AnyU.take (i := 2) (v := ?_) rfl (by kernel_rfl) (by kernel_rfl) (by kernel_rfl) (fun _ _ _ h => h) (by kernel_rfl) (by assumption) (by rfl) ?_ (fun hV => ?_)
          rotate_left 1
          · (intro wq; go_simp; try with_reducible rfl)
          clear hU; have hU := hV; clear hV
          try simp only [Act.put, aput]
          refine AnyU.take (i := 3) (v := ?_) rfl (by kernel_rfl) (by kernel_rfl) (by kernel_rfl) (fun _ _ _ h => h) (by kernel_rfl) (by assumption) (by rfl) ?_ (fun hV => ?_)
          rotate_left 1
          · (intro wq; go_simp; try with_reducible rfl)
          clear hU; have hU := hV; clear hV
          try simp only [Act.put, aput]
          refine AnyU.loadc (i := 4) (d := 7) [7] (Si := fun w' => w'.cell? ⟨b2, o2 + p * 5 + 3, none⟩ = some (.slice ta f.types.length tc) ∧ w'.cell? ⟨w.heap.size + 1, 4, none⟩ = some (.string t.name)) (v := ?_) rfl (by kernel_rfl) (by kernel_rfl) (by kernel_rfl) (fun _ _ _ h => h) (by kernel_rfl) (by assumption) (by kernel_rfl) rfl (by simp) (by rfl) ?_ (fun hV => ?_)
          rotate_left 1
          · (intro wq hq; obtain ⟨u, -⟩ := hq; go_simp; try with_reducible rfl)
          clear hU; have hU := hV; clear hV
          try simp only [Act.put, aput]
          refine AnyU.take (i := 5) (v := ?_) rfl (by kernel_rfl) (by kernel_rfl) (by kernel_rfl) (fun _ _ _ h => h) (by kernel_rfl) (by assumption) (by rfl) ?_ (fun hV => ?_)
          rotate_left 1
          · (intro wq; go_simp; try with_reducible rfl)
          clear hU; have hU := hV; clear hV
          try simp only [Act.put, aput]
          refine AnyU.loadc (i := 6) (d := 7) [7] (Si := fun w' => w'.cell? ⟨b2, o2 + p * 5 + 3, none⟩ = some (.slice ta f.types.length tc) ∧ w'.cell? ⟨w.heap.size + 1, 4, none⟩ = some (.string t.name)) (v := ?_) rfl (by kernel_rfl) (by kernel_rfl) (by kernel_rfl) (fun _ _ _ h => h) (by kernel_rfl) (by assumption) (by kernel_rfl) rfl (by simp) (by rfl) ?_ (fun hV => ?_)
          rotate_left 1
          · (intro wq hq; obtain ⟨-, u⟩ := hq; go_simp; try with_reducible rfl)
          clear hU; have hU := hV; clear hV
          try simp only [Act.put, aput]
          refine AnyU.ready1 (i := 7) (by kernel_rfl) (AnyU.one rfl fun K hK => ?_)
          go_simp
          go_at_call 30
          refine (HRO.out _ BC.out.drew (HT6.out.under (Below.refl w.heap.size w9).drew)).mono ?_
          rintro e w10 ⟨rfl, hb⟩
          have g3 := (hb.cell (p := ⟨b2, o2 + p * 5 + 3, none⟩) lb2).trans g3
          have lb2 : b2 < w10.heap.size := Nat.lt_of_lt_of_le lb2 hb.size
          have HT6 := Lib.hid ((HT6.out.under (Below.refl w.heap.size w9).drew).under (hb.mono BC.out.size))
          have HTY8 := Lib.hid ((HTY8.out.under (Below.refl w.heap.size w9).drew).under (hb.mono BC.out.size))
          have D0 := Lib.hid (D0.out.drew.under hb D0.out.lt)
          have D1 := Lib.hid (D1.out.drew.under hb D1.out.lt)
          have D8 := Lib.hid (D8.out.drew.under hb D8.out.lt)
          have BC := Lib.hid (BC.out.drew.trans (hb.mono BC.out.size))
          clear hb m0 m1 m2 k0 k1 k2 k3 k4 k5 k6 z0 z1 z2 z3 z4 z5 z6 ml kl zl
          refine hK.out _ _ (Until.offT (by kernel_rfl)) (fun hV => ?_)
          clear hK K hU
          have hU := hV
          clear hV
          try simp only [Act.put, aput]
          refine AnyU.take (i := 8) (v := ?_) rfl (by kernel_rfl) (by kernel_rfl) (by kernel_rfl) (fun _ _ _ h => h) (by kernel_rfl) (by assumption) (by rfl) ?_ (fun hV => ?_)
          rotate_left 1
          · (intro wq; go_simp; try with_reducible rfl)
          clear hU; have hU := hV; clear hV
          try simp only [Act.put, aput]
          refine AnyU.done (by kernel_rfl) ?_
          clear hU
          obtain ⟨m0, m1, m2⟩ := cellsT3 D0.out
          have ml := D0.out.lt
          obtain ⟨k0, k1, k2, k3, k4, k5, k6⟩ := cellsT7 D1.out
          have kl := D1.out.lt
          obtain ⟨z0, z1, z2, z3, z4, z5, z6⟩ := cellsT7 D8.out
          have zl := D8.out.lt
          rcases ofN_cases f.types t.name with ⟨hp2, hnf2⟩ | ⟨p2, hpl2, hp2, hnf2⟩
          · obtain rfl : po = -1 := HPO.out.symm.trans hp2
            obtain rfl : is2 = false := by rw [← HIS2.out, hnf2]; rfl
            clear hp2 hnf2
            go_upto_region 17 with fail
            go_quiet (fail)
            go_wp2_with fail
            first
              | exact ⟨⟨k + 1, by omega, by go_num, below_drewN BC.out _, D0.out, D1.out⟩, by simp [intOf]; omega⟩
              | (go_roundw
                 case rel => exact ⟨k + 1, by omega, by go_num, below_drewN BC.out _, D0.out, D1.out⟩
                 case measure => simp [intOf]; omega)
          · obtain rfl : po = (p2 : Int) := HPO.out.symm.trans hp2
            obtain rfl : is2 = true := by rw [← HIS2.out, hnf2]; rfl
            obtain ⟨n, hn⟩ : ∃ n, f.types[p2] = n := ⟨_, rfl⟩
            obtain rfl : s = n.ty := by rw [← HS.out, hnf2, ← hn]; rfl
            obtain ⟨-, b3, o3, na3, nc3, sa3, sc3, hta, hbB3, hty3, h0, h1, h2, h3, h4, h5', h6, h7⟩ := HT6.out.elem hpl2 hn
            obtain rfl := hta
            have lb3 : b3 < w10.heap.size := by have := BC.out.size; omega
            have hp20 : (0 : Int) ≤ (p2 : Int) := by omega
            have hpl3 : (p2 : Int) < (f.types.length : Int) := by omega
            have hsm := fun W' (hb : Below w10.heap.size w10 W') => same_yes (rfl : n.ty = n.ty) (HTY8.out.under (hb.mono BC.out.size)) (hty3.under (hb.mono BC.out.size)) (Nat.le_trans BC.out.size hb.size)
            simp only [tyCells] at hsm
            have HSM := Lib.hid hsm
            clear hp2 hnf2 hn hbB3 hty3 h0 hsm m0 m1 m2 ml k0 k1 k2 k3 k4 k5 k6 kl
            go_upto_region 17 with fail
            refine wp_region_until [(17, fun w' => w'.cell? ⟨b8, 0, none⟩ = some (.int .i64 n.ty.kind) ∧ w'.cell? ⟨b8, 1, none⟩ = some (.string n.ty.pkg) ∧ w'.cell? ⟨b8, 2, none⟩ = some (.int .i64 n.ty.major) ∧ w'.cell? ⟨b8, 3, none⟩ = some (.string n.ty.mod) ∧ w'.cell? ⟨b8, 4, none⟩ = some (.string n.ty.name) ∧ w'.cell? ⟨b8, 5, none⟩ = some (.slice na8 n.ty.names.length nc8) ∧ w'.cell? ⟨b8, 6, none⟩ = some (.slice sa8 n.ty.subs.length sc8) ∧ w'.cell? ⟨b2, o2 + p * 5 + 3, none⟩ = some (.slice (some ⟨b3, o3, none⟩) f.types.length tc) ∧ w'.cell? ⟨b3, o3 + p2 * 8 + 1, none⟩ = some (.int .i64 n.ty.kind) ∧ w'.cell? ⟨b3, o3 + p2 * 8 + 2, none⟩ = some (.string n.ty.pkg) ∧ w'.cell? ⟨b3, o3 + p2 * 8 + 3, none⟩ = some (.int .i64 n.ty.major) ∧ w'.cell? ⟨b3, o3 + p2 * 8 + 4, none⟩ = some (.string n.ty.mod) ∧ w'.cell? ⟨b3, o3 + p2 * 8 + 5, none⟩ = some (.string n.ty.name) ∧ w'.cell? ⟨b3, o3 + p2 * 8 + 6, none⟩ = some (.slice na3 n.ty.names.length nc3) ∧ w'.cell? ⟨b3, o3 + p2 * 8 + 7, none⟩ = some (.slice sa3 n.ty.subs.length sc3))] (by kernel_rfl) (Until.cons (fun _ => ⟨z0, z1, z2, z3, z4, z5, z6, g3, h1, h2, h3, h4, h5', h6, h7⟩) Until.nil) (fun hU => ?_)
            refine AnyU.take (i := 0) (v := ?_) rfl (by kernel_rfl) (by kernel_rfl) (by kernel_rfl) (fun _ _ _ h => h) (by kernel_rfl) (by assumption) (by rfl) ?_ (fun hV => ?_)
            rotate_left 1
            · (intro wq; go_simp; try with_reducible rfl)
            clear hU; have hU := hV; clear hV
            try simp only [Act.put, aput]
            refine AnyU.take (i := 1) (v := ?_) rfl (by kernel_rfl) (by kernel_rfl) (by kernel_rfl) (fun _ _ _ h => h) (by kernel_rfl) (by assumption) (by rfl) ?_ (fun hV => ?_)
            rotate_left 1
            · (intro wq; go_simp; try with_reducible rfl)
            clear hU; have hU := hV; clear hV
            try simp only [Act.put, aput]
            refine AnyU.take (i := 2) (v := ?_) rfl (by kernel_rfl) (by kernel_rfl) (by kernel_rfl) (fun _ _ _ h => h) (by kernel_rfl) (by assumption) (by rfl) ?_ (fun hV => ?_)
            rotate_left 1
            · (intro wq; go_simp; try with_reducible rfl)
            clear hU; have hU := hV; clear hV
            try simp only [Act.put, aput]
            refine AnyU.take (i := 3) (v := ?_) rfl (by kernel_rfl) (by kernel_rfl) (by kernel_rfl) (fun _ _ _ h => h) (by kernel_rfl) (by assumption) (by rfl) ?_ (fun hV => ?_)
            rotate_left 1
            · (intro wq; go_simp; try with_reducible rfl)
            clear hU; have hU := hV; clear hV
            try simp only [Act.put, aput]
            refine AnyU.take (i := 4) (v := ?_) rfl (by kernel_rfl) (by kernel_rfl) (by kernel_rfl) (fun _ _ _ h => h) (by kernel_rfl) (by assumption) (by rfl) ?_ (fun hV => ?_)
            rotate_left 1
            · (intro wq; go_simp; try with_reducible rfl)
            clear hU; have hU := hV; clear hV
            try simp only [Act.put, aput]
            refine AnyU.take (i := 5) (v := ?_) rfl (by kernel_rfl) (by kernel_rfl) (by kernel_rfl) (fun _ _ _ h => h) (by kernel_rfl) (by assumption) (by rfl) ?_ (fun hV => ?_)
            rotate_left 1
            · (intro wq; go_simp; try with_reducible rfl)
            clear hU; have hU := hV; clear hV
            try simp only [Act.put, aput]
            refine AnyU.take (i := 6) (v := ?_) rfl (by kernel_rfl) (by kernel_rfl) (by kernel_rfl) (fun _ _ _ h => h) (by kernel_rfl) (by assumption) (by rfl) ?_ (fun hV => ?_)
            rotate_left 1
            · (intro wq; go_simp; try with_reducible rfl)
            clear hU; have hU := hV; clear hV
            try simp only [Act.put, aput]
            refine AnyU.loadc (i := 7) (d := 17) [17] (Si := fun w' => w'.cell? ⟨b8, 0, none⟩ = some (.int .i64 n.ty.kind) ∧ w'.cell? ⟨b8, 1, none⟩ = some (.string n.ty.pkg) ∧ w'.cell? ⟨b8, 2, none⟩ = some (.int .i64 n.ty.major) ∧ w'.cell? ⟨b8, 3, none⟩ = some (.string n.ty.mod) ∧ w'.cell? ⟨b8, 4, none⟩ = some (.string n.ty.name) ∧ w'.cell? ⟨b8, 5, none⟩ = some (.slice na8 n.ty.names.length nc8) ∧ w'.cell? ⟨b8, 6, none⟩ = some (.slice sa8 n.ty.subs.length sc8) ∧ w'.cell? ⟨b2, o2 + p * 5 + 3, none⟩ = some (.slice (some ⟨b3, o3, none⟩) f.types.length tc) ∧ w'.cell? ⟨b3, o3 + p2 * 8 + 1, none⟩ = some (.int .i64 n.ty.kind) ∧ w'.cell? ⟨b3, o3 + p2 * 8 + 2, none⟩ = some (.string n.ty.pkg) ∧ w'.cell? ⟨b3, o3 + p2 * 8 + 3, none⟩ = some (.int .i64 n.ty.major) ∧ w'.cell? ⟨b3, o3 + p2 * 8 + 4, none⟩ = some (.string n.ty.mod) ∧ w'.cell? ⟨b3, o3 + p2 * 8 + 5, none⟩ = some (.string n.ty.name) ∧ w'.cell? ⟨b3, o3 + p2 * 8 + 6, none⟩ = some (.slice na3 n.ty.names.length nc3) ∧ w'.cell? ⟨b3, o3 + p2 * 8 + 7, none⟩ = some (.slice sa3 n.ty.subs.length sc3)) (v := ?_) rfl (by kernel_rfl) (by kernel_rfl) (by kernel_rfl) (fun _ _ _ h => h) (by kernel_rfl) (by assumption) (by kernel_rfl) rfl (by simp) (by rfl) ?_ (fun hV => ?_)
            rotate_left 1
            · (intro wq hq; obtain ⟨u0, u1, u2, u3, u4, u5, u6, -⟩ := hq; go_simp; try with_reducible rfl)
            clear hU; have hU := hV; clear hV
            try simp only [Act.put, aput]
            refine AnyU.take (i := 8) (v := ?_) rfl (by kernel_rfl) (by kernel_rfl) (by kernel_rfl) (fun _ _ _ h => h) (by kernel_rfl) (by assumption) (by rfl) ?_ (fun hV => ?_)
            rotate_left 1
            · (intro wq; go_simp; try with_reducible rfl)
            clear hU; have hU := hV; clear hV
            try simp only [Act.put, aput]
            refine AnyU.take (i := 9) (v := ?_) rfl (by kernel_rfl) (by kernel_rfl) (by kernel_rfl) (fun _ _ _ h => h) (by kernel_rfl) (by assumption) (by rfl) ?_ (fun hV => ?_)
            rotate_left 1
            · (intro wq; go_simp; try with_reducible rfl)
            clear hU; have hU := hV; clear hV
            try simp only [Act.put, aput]
            refine AnyU.take (i := 10) (v := ?_) rfl (by kernel_rfl) (by kernel_rfl) (by kernel_rfl) (fun _ _ _ h => h) (by kernel_rfl) (by assumption) (by rfl) ?_ (fun hV => ?_)
            rotate_left 1
            · (intro wq; go_simp; try with_reducible rfl)
            clear hU; have hU := hV; clear hV
            try simp only [Act.put, aput]
            refine AnyU.take (i := 11) (v := ?_) rfl (by kernel_rfl) (by kernel_rfl) (by kernel_rfl) (fun _ _ _ h => h) (by kernel_rfl) (by assumption) (by rfl) ?_ (fun hV => ?_)
            rotate_left 1
            · (intro wq; go_simp; try with_reducible rfl)
            clear hU; have hU := hV; clear hV
            try simp only [Act.put, aput]
            refine AnyU.loadc (i := 12) (d := 17) [14, 15, 16, 17] (Si := fun w' => w'.cell? ⟨b8, 0, none⟩ = some (.int .i64 n.ty.kind) ∧ w'.cell? ⟨b8, 1, none⟩ = some (.string n.ty.pkg) ∧ w'.cell? ⟨b8, 2, none⟩ = some (.int .i64 n.ty.major) ∧ w'.cell? ⟨b8, 3, none⟩ = some (.string n.ty.mod) ∧ w'.cell? ⟨b8, 4, none⟩ = some (.string n.ty.name) ∧ w'.cell? ⟨b8, 5, none⟩ = some (.slice na8 n.ty.names.length nc8) ∧ w'.cell? ⟨b8, 6, none⟩ = some (.slice sa8 n.ty.subs.length sc8) ∧ w'.cell? ⟨b2, o2 + p * 5 + 3, none⟩ = some (.slice (some ⟨b3, o3, none⟩) f.types.length tc) ∧ w'.cell? ⟨b3, o3 + p2 * 8 + 1, none⟩ = some (.int .i64 n.ty.kind) ∧ w'.cell? ⟨b3, o3 + p2 * 8 + 2, none⟩ = some (.string n.ty.pkg) ∧ w'.cell? ⟨b3, o3 + p2 * 8 + 3, none⟩ = some (.int .i64 n.ty.major) ∧ w'.cell? ⟨b3, o3 + p2 * 8 + 4, none⟩ = some (.string n.ty.mod) ∧ w'.cell? ⟨b3, o3 + p2 * 8 + 5, none⟩ = some (.string n.ty.name) ∧ w'.cell? ⟨b3, o3 + p2 * 8 + 6, none⟩ = some (.slice na3 n.ty.names.length nc3) ∧ w'.cell? ⟨b3, o3 + p2 * 8 + 7, none⟩ = some (.slice sa3 n.ty.subs.length sc3)) (v := ?_) rfl (by kernel_rfl) (by kernel_rfl) (by kernel_rfl) (fun _ _ _ h => h) (by kernel_rfl) (by assumption) (by kernel_rfl) rfl (by simp) (by rfl) ?_ (fun hV => ?_)
            rotate_left 1
            · (intro wq hq; obtain ⟨-, -, -, -, -, -, -, u, -⟩ := hq; go_simp; try with_reducible rfl)
            clear hU; have hU := hV; clear hV
            try simp only [Act.put, aput]
            refine AnyU.take (i := 13) (v := ?_) rfl (by kernel_rfl) (by kernel_rfl) (by kernel_rfl) (fun _ _ _ h => h) (by kernel_rfl) (by assumption) (by rfl) ?_ (fun hV => ?_)
            rotate_left 1
            · (intro wq; go_simp; try with_reducible rfl)
            clear hU; have hU := hV; clear hV
            try simp only [Act.put, aput]
            refine AnyU.take (i := 14) (v := ?_) rfl (by kernel_rfl) (by kernel_rfl) (by kernel_rfl) (fun _ _ _ h => h) (by kernel_rfl) (by assumption) (by rfl) ?_ (fun hV => ?_)
            rotate_left 1
            · (intro wq; go_simp; try with_reducible rfl)
            clear hU; have hU := hV; clear hV
            try simp only [Act.put, aput]
            refine AnyU.take (i := 15) (v := ?_) rfl (by kernel_rfl) (by kernel_rfl) (by kernel_rfl) (fun _ _ _ h => h) (by kernel_rfl) (by assumption) (by rfl) ?_ (fun hV => ?_)
            rotate_left 1
            · (intro wq; go_simp; try with_reducible rfl)
            clear hU; have hU := hV; clear hV
            try simp only [Act.put, aput]
            refine AnyU.loadc (i := 16) (d := 17) [17] (Si := fun w' => w'.cell? ⟨b8, 0, none⟩ = some (.int .i64 n.ty.kind) ∧ w'.cell? ⟨b8, 1, none⟩ = some (.string n.ty.pkg) ∧ w'.cell? ⟨b8, 2, none⟩ = some (.int .i64 n.ty.major) ∧ w'.cell? ⟨b8, 3, none⟩ = some (.string n.ty.mod) ∧ w'.cell? ⟨b8, 4, none⟩ = some (.string n.ty.name) ∧ w'.cell? ⟨b8, 5, none⟩ = some (.slice na8 n.ty.names.length nc8) ∧ w'.cell? ⟨b8, 6, none⟩ = some (.slice sa8 n.ty.subs.length sc8) ∧ w'.cell? ⟨b2, o2 + p * 5 + 3, none⟩ = some (.slice (some ⟨b3, o3, none⟩) f.types.length tc) ∧ w'.cell? ⟨b3, o3 + p2 * 8 + 1, none⟩ = some (.int .i64 n.ty.kind) ∧ w'.cell? ⟨b3, o3 + p2 * 8 + 2, none⟩ = some (.string n.ty.pkg) ∧ w'.cell? ⟨b3, o3 + p2 * 8 + 3, none⟩ = some (.int .i64 n.ty.major) ∧ w'.cell? ⟨b3, o3 + p2 * 8 + 4, none⟩ = some (.string n.ty.mod) ∧ w'.cell? ⟨b3, o3 + p2 * 8 + 5, none⟩ = some (.string n.ty.name) ∧ w'.cell? ⟨b3, o3 + p2 * 8 + 6, none⟩ = some (.slice na3 n.ty.names.length nc3) ∧ w'.cell? ⟨b3, o3 + p2 * 8 + 7, none⟩ = some (.slice sa3 n.ty.subs.length sc3)) (v := ?_) rfl (by kernel_rfl) (by kernel_rfl) (by kernel_rfl) (fun _ _ _ h => h) (by kernel_rfl) (by assumption) (by kernel_rfl) rfl (by simp) (by rfl) ?_ (fun hV => ?_)
            rotate_left 1
            · (intro wq hq; obtain ⟨-, -, -, -, -, -, -, -, u0, u1, u2, u3, u4, u5, u6⟩ := hq; go_simp; try with_reducible rfl)
            clear hU; have hU := hV; clear hV
            try simp only [Act.put, aput]
            refine AnyU.ready1 (i := 17) (by kernel_rfl) (AnyU.one rfl fun K hK => ?_)
            go_simp
            go_at_call 31
            refine (HSM.out _ (Below.refl _ _).drew).mono ?_
            rintro e w11 ⟨rfl, hb⟩
            have D0 := Lib.hid (D0.out.drew.under hb D0.out.lt)
            have D1 := Lib.hid (D1.out.drew.under hb D1.out.lt)
            have BC := Lib.hid (BC.out.drew.trans (hb.mono BC.out.size))
            clear hb z0 z1 z2 z3 z4 z5 z6 zl g3 h1 h2 h3 h4 h5' h6 h7
            refine hK.out _ _ (Until.offT (by kernel_rfl)) (fun hV => ?_)
            clear hK K hU
            have hU := hV
            clear hV
            try simp only [Act.put, aput]
            refine AnyU.take (i := 18) (v := ?_) rfl (by kernel_rfl) (by kernel_rfl) (by kernel_rfl) (fun _ _ _ h => h) (by kernel_rfl) (by assumption) (by rfl) ?_ (fun hV => ?_)
            rotate_left 1
            · (intro wq; go_simp; try with_reducible rfl)
            clear hU; have hU := hV; clear hV
            try simp only [Act.put, aput]
            refine AnyU.take (i := 19) (v := ?_) rfl (by kernel_rfl) (by kernel_rfl) (by kernel_rfl) (fun _ _ _ h => h) (by kernel_rfl) (by assumption) (by rfl) ?_ (fun hV => ?_)
            rotate_left 1
            · (intro wq; go_simp; try with_reducible rfl)
            clear hU; have hU := hV; clear hV
            try simp only [Act.put, aput]
            refine AnyU.take (i := 20) (v := ?_) rfl (by kernel_rfl) (by kernel_rfl) (by kernel_rfl) (fun _ _ _ h => h) (by kernel_rfl) (by assumption) (by rfl) ?_ (fun hV => ?_)
            rotate_left 1
            · (intro wq; go_simp; try with_reducible rfl)
            clear hU; have hU := hV; clear hV
            try simp only [Act.put, aput]
            refine AnyU.done (by kernel_rfl) ?_
            clear hU
            go_wp2_with fail
            first
              | exact ⟨⟨k + 1, by omega, by go_num, BC.out, D0.out, D1.out⟩, by simp [intOf]; omega⟩
              | (go_roundw
                 case rel => exact ⟨k + 1, by omega, by go_num, BC.out, D0.out, D1.out⟩
                 case measure => simp [intOf]; omega)
    · obtain rfl : k = m.imps.length := by omega
      have hkI : ¬ (m.imps.length : Int) < (m.imps.length : Int) := by omega
      have hx1 := expand_c ⟨m, pkg, j, env⟩ ia ic da dc ea ec w.heap.size t _ wr (env_of (HM.out.under BC.out) (HE.out.under BC.out) H1.out H3.out HP.out hec ⟨hj1, hj2⟩) (HT.out.under BC.out) BC.out.size
      simp only [mdlCells, tyCells] at hx1
      have HX1 := Lib.hid hx1
      clear hx1
      go_upto_region 20 with (go_at_call 32; refine (HX1.out).mono ?_; rintro e wn ⟨c, x, cs3, rfl, hxi, hxt, hb⟩; obtain ⟨na3, nc3, sa3, sc3, f3, rfl, -⟩ := hxt.inv; simp only [tyCells]; have HXI := Lib.hid hxi; have HXT := Lib.hid (hxt.mono (M' := (· < wn.heap.size)) fun b hb => hb.2).toC; clear hxi hxt; have D0 := Lib.hid (D0.out.under hb D0.out.lt); have D1 := Lib.hid (D1.out.under hb D1.out.lt); have BC := Lib.hid (BC.out.trans (hb.mono BC.out.size)); clear hb; clear m0 m1 m2 k0 k1 k2 k3 k4 k5 k6 ml kl; obtain ⟨m0, m1, m2⟩ := cellsT3 D0.out; have ml := D0.out.lt; obtain ⟨k0, k1, k2, k3, k4, k5, k6⟩ := cellsT7 D1.out; have kl := D1.out.lt)
      clear m0 m1 m2 k0 k1 k2 k3 k4 k5 k6 ml kl
      obtain ⟨bN, hb, hzN⟩ := laidN wn #[.int .i64 x.kind, .string x.pkg, .int .i64 x.major, .string x.mod, .string x.name, .slice na3 x.names.length nc3, .slice sa3 x.subs.length sc3] 29
      generalize (wn.alloc (.cells #[.int .i64 x.kind, .string x.pkg, .int .i64 x.major, .string x.mod, .string x.name, .slice na3 x.names.length nc3, .slice sa3 x.subs.length sc3] 29)) = W2 at bN hb hzN ⊢
      have D0 := Lib.hid (D0.out.under hb D0.out.lt)
      have D1 := Lib.hid (D1.out.under hb D1.out.lt)
      have HXT := Lib.hid ((HXT.out.under hb).mono hb.size)
      have BC := Lib.hid (BC.out.trans (hb.mono BC.out.size))
      have D2 := Lib.hid bN
      clear bN hb hzN
      obtain ⟨m0, m1, m2⟩ := cellsT3 D0.out
      have ml := D0.out.lt
      obtain ⟨k0, k1, k2, k3, k4, k5, k6⟩ := cellsT7 D1.out
      have kl := D1.out.lt
      obtain ⟨x0, x1, x2, x3, x4, x5, x6⟩ := cellsT7 D2.out
      have xl := D2.out.lt
      have hx2 := refAll_c ⟨m, pkg, j, env⟩ ia ic da dc ea ec w.heap.size t _ W2 ⟨HM.out.under BC.out, HE.out.under BC.out, by have := H1.out; simp only [fewM, Bool.and_eq_true, decide_eq_true_eq] at this; show m.decls.length ≤ _; omega, hni, H3.out⟩ (HT.out.under BC.out) BC.out.size HP.out hj1 hj2 (by have := few_many t H2.out; omega) (few_hmany H1.out) (by show env.length ≤ _; omega)
      simp only [mdlCells, tyCells] at hx2
      have HX2 := Lib.hid hx2
      clear hx2
      go_upto_region 21 with (go_at_call 33; refine (HX2.out).mono ?_; rintro e wn ⟨c', y, cs4, rfl, hyi, hyt, hb⟩; obtain ⟨na4, nc4, sa4, sc4, f4, rfl, -⟩ := hyt.inv; simp only [tyCells]; obtain ⟨rfl, rfl⟩ := HXI.out.uniq hyi; have HYT := Lib.hid (hyt.mono (M' := (· < wn.heap.size)) fun b hb => hb.2).toC; clear hyi hyt; have D0 := Lib.hid (D0.out.under hb D0.out.lt); have D1 := Lib.hid (D1.out.under hb D1.out.lt); have D2 := Lib.hid (D2.out.under hb D2.out.lt); have HXT := Lib.hid ((HXT.out.under hb).mono hb.size); have BC := Lib.hid (BC.out.trans (hb.mono BC.out.size)); clear hb; clear m0 m1 m2 k0 k1 k2 k3 k4 k5 k6 x0 x1 x2 x3 x4 x5 x6 ml kl xl; obtain ⟨m0, m1, m2⟩ := cellsT3 D0.out; have ml := D0.out.lt; obtain ⟨k0, k1, k2, k3, k4, k5, k6⟩ := cellsT7 D1.out; have kl := D1.out.lt; obtain ⟨x0, x1, x2, x3, x4, x5, x6⟩ := cellsT7 D2.out; have xl := D2.out.lt)
      clear m0 m1 m2 k0 k1 k2 k3 k4 k5 k6 x0 x1 x2 x3 x4 x5 x6 ml kl xl
      obtain ⟨bN, hb, hzN⟩ := laidN wn #[.int .i64 x.kind, .string x.pkg, .int .i64 x.major, .string x.mod, .string x.name, .slice na4 x.names.length nc4, .slice sa4 x.subs.length sc4] 29
      generalize (wn.alloc (.cells #[.int .i64 x.kind, .string x.pkg, .int .i64 x.major, .string x.mod, .string x.name, .slice na4 x.names.length nc4, .slice sa4 x.subs.length sc4] 29)) = W3 at bN hb hzN ⊢
      have D0 := Lib.hid (D0.out.under hb D0.out.lt)
      have D1 := Lib.hid (D1.out.under hb D1.out.lt)
      have D2 := Lib.hid (D2.out.under hb D2.out.lt)
      have HXT := Lib.hid ((HXT.out.under hb).mono hb.size)
      have HYT := Lib.hid ((HYT.out.under hb).mono hb.size)
      have BC := Lib.hid (BC.out.trans (hb.mono BC.out.size))
      have D3 := Lib.hid bN
      clear bN hb hzN
      obtain ⟨m0, m1, m2⟩ := cellsT3 D0.out
      have ml := D0.out.lt
      obtain ⟨k0, k1, k2, k3, k4, k5, k6⟩ := cellsT7 D1.out
      have kl := D1.out.lt
      obtain ⟨x0, x1, x2, x3, x4, x5, x6⟩ := cellsT7 D2.out
      have xl := D2.out.lt
      obtain ⟨y0, y1, y2, y3, y4, y5, y6⟩ := cellsT7 D3.out
      have yl := D3.out.lt
      have HCD := Lib.hid HXI.out.codes
      go_wp2_with (first
        | (go_at_call 34; refine (code_any c HCD.out _).mono ?_; rintro e wn ⟨rfl, hb⟩; have D0 := Lib.hid (D0.out.under hb D0.out.lt); have D1 := Lib.hid (D1.out.under hb D1.out.lt); have D2 := Lib.hid (D2.out.under hb D2.out.lt); have D3 := Lib.hid (D3.out.under hb D3.out.lt); have HXT := Lib.hid ((HXT.out.under hb).mono hb.size); have HYT := Lib.hid ((HYT.out.under hb).mono hb.size); have BC := Lib.hid (BC.out.trans (hb.mono BC.out.size)); clear hb; clear m0 m1 m2 k0 k1 k2 k3 k4 k5 k6 x0 x1 x2 x3 x4 x5 x6 y0 y1 y2 y3 y4 y5 y6 ml kl xl yl; obtain ⟨m0, m1, m2⟩ := cellsT3 D0.out; have ml := D0.out.lt; obtain ⟨k0, k1, k2, k3, k4, k5, k6⟩ := cellsT7 D1.out; have kl := D1.out.lt; obtain ⟨x0, x1, x2, x3, x4, x5, x6⟩ := cellsT7 D2.out; have xl := D2.out.lt; obtain ⟨y0, y1, y2, y3, y4, y5, y6⟩ := cellsT7 D3.out; have yl := D3.out.lt)
        | (go_at_call 31; refine (same_yes rfl HXT.out HYT.out (Nat.le_refl _)).mono ?_; rintro e wn ⟨rfl, hb⟩; have D0 := Lib.hid (D0.out.under hb D0.out.lt); have D1 := Lib.hid (D1.out.under hb D1.out.lt); have D2 := Lib.hid (D2.out.under hb D2.out.lt); have D3 := Lib.hid (D3.out.under hb D3.out.lt); have HXT := Lib.hid ((HXT.out.under hb).mono hb.size); have HYT := Lib.hid ((HYT.out.under hb).mono hb.size); have BC := Lib.hid (BC.out.trans (hb.mono BC.out.size)); clear hb; clear m0 m1 m2 k0 k1 k2 k3 k4 k5 k6 x0 x1 x2 x3 x4 x5 x6 y0 y1 y2 y3 y4 y5 y6 ml kl xl yl; obtain ⟨m0, m1, m2⟩ := cellsT3 D0.out; have ml := D0.out.lt; obtain ⟨k0, k1, k2, k3, k4, k5, k6⟩ := cellsT7 D1.out; have kl := D1.out.lt; obtain ⟨x0, x1, x2, x3, x4, x5, x6⟩ := cellsT7 D2.out; have xl := D2.out.lt; obtain ⟨y0, y1, y2, y3, y4, y5, y6⟩ := cellsT7 D3.out; have yl := D3.out.lt))
      go_ret
      first
        | exact ⟨rfl, BC.out⟩
        | exact ⟨ret_b (by simp), BC.out⟩
end Go.Proofs.YtjeldfipipkfiaaGreatDoor
