/- The contract of iface.named; memory: a row of named types. -/
import Derived.Test.YtjeldfipipkfiaaGreatFewC
import Derived.Test.YtjeldfipipkfiaaGreatGReg
import Derived.Deep.DeepCutAuto
import Derived.Deep.Cut
import Derived.Test.YtjeldfipipkfiaaGreatGMem
namespace Go.Proofs.YtjeldfipipkfiaaGreat
open Go.RowKit
set_option linter.unusedSimpArgs false
set_option linter.unusedVariables false
theorem Until.off {cs : List (Nat × (World → Prop))} {l : Array Bool} {w : World} (h : (cs.all fun x => l.getD x.1 true) = true) : Until cs l w := fun x hx hl => by
  have := List.all_eq_true.1 h x hx
  rw [hl] at this
  cases this
theorem cells8 {w : World} {g : Nat} {T : TypeId} {x0 x1 x2 x3 x4 x5 x6 x7 : Value} (h : Blk w g #[x0, x1, x2, x3, x4, x5, x6, x7] T) :
    w.cell? ⟨g, 0, none⟩ = some x0 ∧ w.cell? ⟨g, 1, none⟩ = some x1 ∧ w.cell? ⟨g, 2, none⟩ = some x2 ∧ w.cell? ⟨g, 3, none⟩ = some x3 ∧ w.cell? ⟨g, 4, none⟩ = some x4 ∧ w.cell? ⟨g, 5, none⟩ = some x5 ∧ w.cell? ⟨g, 6, none⟩ = some x6 ∧ w.cell? ⟨g, 7, none⟩ = some x7 :=
  ⟨h.cell 0, h.cell 1, h.cell 2, h.cell 3, h.cell 4, h.cell 5, h.cell 6, h.cell 7⟩
def nmOk (p : ByteArray → Bool) (l : List Nm) (i : Nat) : Bool := if h : i < l.length then p l[i].name && ((decide (i = 0) || ltB (l[i - 1]'(by omega)).name l[i].name) && PlainB l[i].ty) else true
def namedB (p : ByteArray → Bool) (l : List Nm) : Bool := (List.range l.length).all (nmOk p l)
theorem named_bad {p : ByteArray → Bool} {l : List Nm} {k : Nat} (hk : k < l.length) (h : nmOk p l k = false) : namedB p l = false := by
  rw [namedB, List.all_eq_false]
  exact ⟨k, List.mem_range.2 hk, by simp [h]⟩
theorem named_all {p : ByteArray → Bool} {l : List Nm} (h : ∀ i, i < l.length → nmOk p l i = true) : namedB p l = true := by
  rw [namedB, List.all_eq_true]
  intro i hi
  exact h i (List.mem_range.1 hi)
set_option maxRecDepth 100000 in
set_option maxHeartbeats 40000000 in
theorem namedFn_c (fn : Nat) (p : ByteArray → Bool) (hfn : ∀ (a : Array Value) (w : World), (callFunc fn a).run Tryz.prog w = .ok (.enter fn a) w)
    (hp : ∀ (s : ByteArray) (w : World), s.size ≤ maxLen → Calls Tryz.prog fn #[.string s] w fun e w' => e = .returned (.bool (p s)) ∧ Below w.heap.size w w') (l : List Nm) (A : Option Addr) (cap B : Nat) (w : World) (h : NmsAt w B A l) (hB : B ≤ w.heap.size) (hl : l.length ≤ maxLen) :
    Calls Tryz.prog 29 #[.slice A l.length cap, .func (.func fn) #[] #[]] w fun e w' => e = .returned (.bool (namedB p l)) ∧ Below w.heap.size w w' := by
  have HP := Lib.hid hp
  clear hp
  obtain ⟨R, hR⟩ : ∃ R, namedB p l = R := ⟨_, rfl⟩
  rw [hR]
  have HR := Lib.hid hR
  have H := Lib.hid h
  unfold maxLen at hl
  clear hR h
  go_enter Tryz.func29, Tryz.ntmps29
  go_wp2_with fail
  go_loopw [9] (fun iv wr => ∃ k : Nat, iv = .int .i64 k ∧ k ≤ l.length ∧ Below w.heap.size w wr ∧ ∀ i, i < k → nmOk p l i = true) (fun iv _ => l.length - (intOf iv).toNat)
  case atStart => exact ⟨0, rfl, Nat.zero_le _, Below.refl _ _, fun i hi => absurd hi (by omega)⟩
  case round =>
    obtain ⟨k, rfl, hk, hb1, hall⟩ := hrel
    have A1 := Lib.hid hb1
    have HA := Lib.hid hall
    have hBr : B ≤ wr.heap.size := Nat.le_trans hB hb1.size
    clear hb1 hall
    by_cases hlt : k < l.length
    rotate_left
    · obtain rfl : k = l.length := by omega
      have hltI : ¬ (l.length : Int) < (l.length : Int) := by omega
      go_wp2_with fail
      go_ret
      exact ⟨ret_b (by rw [← HR.out, named_all HA.out]), A1.out⟩
    have hltI : (k : Int) < (l.length : Int) := by omega
    obtain ⟨n, hn⟩ : ∃ n, l[k] = n := ⟨_, rfl⟩
    obtain ⟨hns, b, o, na, nc, sa, sc, rfl, hbB, hty, c0, c1, c2, c3, c4, c5, c6, c7⟩ := H.out.elem hlt hn
    have hbW : b < w.heap.size := by omega
    have hBW : B ≤ w.heap.size := hB
    have hbR : b < wr.heap.size := Nat.lt_of_lt_of_le hbW A1.out.size
    have HTY := Lib.hid hty
    simp only [tyCells] at HTY
    rw [← A1.out.cell (p := ⟨b, _, none⟩) hbW] at c0 c1 c2 c3 c4 c5 c6 c7
    have HC1 := Lib.hid (fun w => HP.out n.name w hns)
    have hC2 := fun w' ht hB' => Plain_c n.ty (tyCells n.ty na nc sa sc) B w' ht hB'
    obtain ⟨s, hsm⟩ : ∃ s, p n.name = s := ⟨_, rfl⟩
    obtain ⟨pl, hpl⟩ : ∃ s, PlainB n.ty = s := ⟨_, rfl⟩
    have hdO : nmOk p l k = (s && ((decide (k = 0) || ltB (l[k - 1]'(by omega)).name n.name) && pl)) := by
      rw [nmOk, dif_pos hlt]
      simp only [hn, hsm, hpl]
    have HDO := Lib.hid hdO
    rw [hsm] at HC1
    simp only [tyCells, hpl] at hC2
    have HC2 := Lib.hid hC2
    have HN := Lib.hid hn
    clear hsm hpl hdO hC2 hty hn
    go_upto_region 4 with fail
    have BD := Lib.hid (Blk.new wr #[.string n.name, .int .i64 n.ty.kind, .string n.ty.pkg, .int .i64 n.ty.major, .string n.ty.mod, .string n.ty.name, .slice na n.ty.names.length nc, .slice sa n.ty.subs.length sc] 57)
    have A2 := Lib.hid (A1.out.alloc A1.out.size (.cells #[.string n.name, .int .i64 n.ty.kind, .string n.ty.pkg, .int .i64 n.ty.major, .string n.ty.mod, .string n.ty.name, .slice na n.ty.names.length nc, .slice sa n.ty.subs.length sc] 57))
    generalize hw : (wr.alloc (.cells #[.string n.name, .int .i64 n.ty.kind, .string n.ty.pkg, .int .i64 n.ty.major, .string n.ty.mod, .string n.ty.name, .slice na n.ty.names.length nc, .slice sa n.ty.subs.length sc] 57)) = wd at A2 BD ⊢
    clear hw c0 c1 c2 c3 c4 c5 c6 c7 hbR
    generalize wr.heap.size = bd at BD ⊢
    cases s
    · as_aux_lemma =>
        have hbad := named_bad hlt (by rw [HDO.out]; rfl)
        rw [HR.out] at hbad
        subst hbad
        refine wp_region_until [(3, fun w' => Blk w' bd #[.string n.name, .int .i64 n.ty.kind, .string n.ty.pkg, .int .i64 n.ty.major, .string n.ty.mod, .string n.ty.name, .slice na n.ty.names.length nc, .slice sa n.ty.subs.length sc] 57)] (by kernel_rfl) (Until.cons (fun _ => BD.out.drew) Until.nil) (fun hU => ?_)
        have A2d := Lib.hid A2.out.drew
        clear A2
        have A2 := A2d
        clear A2d
        have BD2 := Lib.hid BD.out.drew
        refine AnyU.take (i := 0) (v := ?_) rfl (by kernel_rfl) (by kernel_rfl) (by kernel_rfl) (fun _ _ _ h => h) (by kernel_rfl) (by assumption) (by rfl) ?_ (fun hV => ?_)
        rotate_left 1
        · (intro wq; go_simp; try with_reducible rfl)
        clear hU; have hU := hV; clear hV
        try simp only [Act.put, aput]
        refine AnyU.take (i := 1) (v := ?_) rfl (by kernel_rfl) (by kernel_rfl) (by kernel_rfl) (fun _ _ _ h => h) (by kernel_rfl) (by assumption) (by rfl) ?_ (fun hV => ?_)
        rotate_left 1
        · (intro wq; go_simp; try with_reducible rfl)
        clear hU; have hU := hV; clear hV
        try simp only [Act.put, aput]
        refine AnyU.loadc (i := 2) (d := 3) [3] (Si := fun w' => Blk w' bd #[.string n.name, .int .i64 n.ty.kind, .string n.ty.pkg, .int .i64 n.ty.major, .string n.ty.mod, .string n.ty.name, .slice na n.ty.names.length nc, .slice sa n.ty.subs.length sc] 57) (v := ?_) rfl (by kernel_rfl) (by kernel_rfl) (by kernel_rfl) (fun _ _ _ h => h) (by kernel_rfl) (by assumption) (by kernel_rfl) rfl (by simp) (by rfl) ?_ (fun hV => ?_)
        rotate_left 1
        · (intro wq hq; obtain ⟨u0, u1, u2, u3, u4, u5, u6, u7⟩ := cells8 hq; go_simp; try with_reducible rfl)
        clear hU; have hU := hV; clear hV
        try simp only [Act.put, aput]
        refine AnyU.ready1 (i := 3) (by kernel_rfl) (AnyU.one rfl fun K hK => ?_)
        go_simp
        refine (HC1.out _).mono ?_
        rintro e w3 ⟨rfl, hb⟩
        have A3 := Lib.hid (A2.out.trans (hb.mono A2.out.size))
        have BD3 := Lib.hid (BD2.out.under hb BD2.out.lt)
        clear hb
        refine hK.out _ _ (Until.cons (fun h => absurd h (by decide)) Until.nil) (fun hV => ?_)
        clear hK K
        clear hU; have hU := hV; clear hV
        try simp only [Act.put, aput]
        refine AnyU.take (i := 4) (v := ?_) rfl (by kernel_rfl) (by kernel_rfl) (by kernel_rfl) (fun _ _ _ h => h) (by kernel_rfl) (by assumption) (by rfl) ?_ (fun hV => ?_)
        rotate_left 1
        · (intro wq; go_simp; try with_reducible rfl)
        clear hU; have hU := hV; clear hV
        try simp only [Act.put, aput]
        refine AnyU.take (i := 5) (v := ?_) rfl (by kernel_rfl) (by kernel_rfl) (by kernel_rfl) (fun _ _ _ h => h) (by kernel_rfl) (by assumption) (by rfl) ?_ (fun hV => ?_)
        rotate_left 1
        · (intro wq; go_simp; try with_reducible rfl)
        clear hU; have hU := hV; clear hV
        try simp only [Act.put, aput]
        refine AnyU.skip (i := 6) rfl (by kernel_rfl) (by kernel_rfl) (by kernel_rfl) (fun _ _ _ h => h) (by kernel_rfl) (by assumption) (by rfl) (fun hV => ?_)
        clear hU; have hU := hV; clear hV
        try simp only [Act.put, aput]
        refine AnyU.skip (i := 7) rfl (by kernel_rfl) (by kernel_rfl) (by kernel_rfl) (fun _ _ _ h => h) (by kernel_rfl) (by assumption) (by rfl) (fun hV => ?_)
        clear hU; have hU := hV; clear hV
        try simp only [Act.put, aput]
        refine AnyU.skip (i := 8) rfl (by kernel_rfl) (by kernel_rfl) (by kernel_rfl) (fun _ _ _ h => h) (by kernel_rfl) (by assumption) (by rfl) (fun hV => ?_)
        clear hU; have hU := hV; clear hV
        try simp only [Act.put, aput]
        refine AnyU.skip (i := 9) rfl (by kernel_rfl) (by kernel_rfl) (by kernel_rfl) (fun _ _ _ h => h) (by kernel_rfl) (by assumption) (by rfl) (fun hV => ?_)
        clear hU; have hU := hV; clear hV
        try simp only [Act.put, aput]
        refine AnyU.skip (i := 10) rfl (by kernel_rfl) (by kernel_rfl) (by kernel_rfl) (fun _ _ _ h => h) (by kernel_rfl) (by assumption) (by rfl) (fun hV => ?_)
        clear hU; have hU := hV; clear hV
        try simp only [Act.put, aput]
        refine AnyU.skip (i := 11) rfl (by kernel_rfl) (by kernel_rfl) (by kernel_rfl) (fun _ _ _ h => h) (by kernel_rfl) (by assumption) (by rfl) (fun hV => ?_)
        clear hU; have hU := hV; clear hV
        try simp only [Act.put, aput]
        refine AnyU.skip (i := 12) rfl (by kernel_rfl) (by kernel_rfl) (by kernel_rfl) (fun _ _ _ h => h) (by kernel_rfl) (by assumption) (by rfl) (fun hV => ?_)
        clear hU; have hU := hV; clear hV
        try simp only [Act.put, aput]
        refine AnyU.skip (i := 13) rfl (by kernel_rfl) (by kernel_rfl) (by kernel_rfl) (fun _ _ _ h => h) (by kernel_rfl) (by assumption) (by rfl) (fun hV => ?_)
        clear hU; have hU := hV; clear hV
        try simp only [Act.put, aput]
        refine AnyU.skip (i := 14) rfl (by kernel_rfl) (by kernel_rfl) (by kernel_rfl) (fun _ _ _ h => h) (by kernel_rfl) (by assumption) (by rfl) (fun hV => ?_)
        clear hU; have hU := hV; clear hV
        try simp only [Act.put, aput]
        refine AnyU.skip (i := 15) rfl (by kernel_rfl) (by kernel_rfl) (by kernel_rfl) (fun _ _ _ h => h) (by kernel_rfl) (by assumption) (by rfl) (fun hV => ?_)
        clear hU; have hU := hV; clear hV
        try simp only [Act.put, aput]
        refine AnyU.skip (i := 16) rfl (by kernel_rfl) (by kernel_rfl) (by kernel_rfl) (fun _ _ _ h => h) (by kernel_rfl) (by assumption) (by rfl) (fun hV => ?_)
        clear hU; have hU := hV; clear hV
        try simp only [Act.put, aput]
        refine AnyU.skip (i := 17) rfl (by kernel_rfl) (by kernel_rfl) (by kernel_rfl) (fun _ _ _ h => h) (by kernel_rfl) (by assumption) (by rfl) (fun hV => ?_)
        clear hU; have hU := hV; clear hV
        try simp only [Act.put, aput]
        refine AnyU.skip (i := 18) rfl (by kernel_rfl) (by kernel_rfl) (by kernel_rfl) (fun _ _ _ h => h) (by kernel_rfl) (by assumption) (by rfl) (fun hV => ?_)
        clear hU; have hU := hV; clear hV
        try simp only [Act.put, aput]
        refine AnyU.take (i := 19) (v := ?_) rfl (by kernel_rfl) (by kernel_rfl) (by kernel_rfl) (fun _ _ _ h => h) (by kernel_rfl) (by assumption) (by rfl) ?_ (fun hV => ?_)
        rotate_left 1
        · (intro wq; go_simp; try with_reducible rfl)
        clear hU; have hU := hV; clear hV
        try simp only [Act.put, aput]
        refine AnyU.take (i := 20) (v := ?_) rfl (by kernel_rfl) (by kernel_rfl) (by kernel_rfl) (fun _ _ _ h => h) (by kernel_rfl) (by assumption) (by rfl) ?_ (fun hV => ?_)
        rotate_left 1
        · (intro wq; go_simp; try with_reducible rfl)
        clear hU; have hU := hV; clear hV
        try simp only [Act.put, aput]
        refine AnyU.skip (i := 21) rfl (by kernel_rfl) (by kernel_rfl) (by kernel_rfl) (fun _ _ _ h => h) (by kernel_rfl) (by assumption) (by rfl) (fun hV => ?_)
        clear hU; have hU := hV; clear hV
        try simp only [Act.put, aput]
        refine AnyU.skip (i := 22) rfl (by kernel_rfl) (by kernel_rfl) (by kernel_rfl) (fun _ _ _ h => h) (by kernel_rfl) (by assumption) (by rfl) (fun hV => ?_)
        clear hU; have hU := hV; clear hV
        try simp only [Act.put, aput]
        refine AnyU.skip (i := 23) rfl (by kernel_rfl) (by kernel_rfl) (by kernel_rfl) (fun _ _ _ h => h) (by kernel_rfl) (by assumption) (by rfl) (fun hV => ?_)
        clear hU; have hU := hV; clear hV
        try simp only [Act.put, aput]
        refine AnyU.skip (i := 24) rfl (by kernel_rfl) (by kernel_rfl) (by kernel_rfl) (fun _ _ _ h => h) (by kernel_rfl) (by assumption) (by rfl) (fun hV => ?_)
        clear hU; have hU := hV; clear hV
        try simp only [Act.put, aput]
        refine AnyU.ready1 (i := 25) (by kernel_rfl) (AnyU.one rfl fun K hK => ?_)
        go_simp
        refine hK.out _ _ (Until.off (by kernel_rfl)) (fun hV => ?_)
        clear hK K
        clear hU; have hU := hV; clear hV
        try simp only [Act.put, aput]
        refine AnyU.done (by kernel_rfl) ?_
        go_wp2_with fail
        go_ret
        exact ⟨rfl, A3.out⟩
    by_cases h0 : k = 0
    · subst h0
      cases pl
      · as_aux_lemma =>
          have hbad := named_bad hlt (by rw [HDO.out]; rfl)
          rw [HR.out] at hbad
          subst hbad
          refine wp_region_until [(3, fun w' => Blk w' bd #[.string n.name, .int .i64 n.ty.kind, .string n.ty.pkg, .int .i64 n.ty.major, .string n.ty.mod, .string n.ty.name, .slice na n.ty.names.length nc, .slice sa n.ty.subs.length sc] 57), (23, fun w' => Blk w' bd #[.string n.name, .int .i64 n.ty.kind, .string n.ty.pkg, .int .i64 n.ty.major, .string n.ty.mod, .string n.ty.name, .slice na n.ty.names.length nc, .slice sa n.ty.subs.length sc] 57)] (by kernel_rfl) (Until.cons (fun _ => BD.out.drew) (Until.cons (fun _ => BD.out.drew) Until.nil)) (fun hU => ?_)
          have A2d := Lib.hid A2.out.drew
          clear A2
          have A2 := A2d
          clear A2d
          have BD2 := Lib.hid BD.out.drew
          refine AnyU.take (i := 0) (v := ?_) rfl (by kernel_rfl) (by kernel_rfl) (by kernel_rfl) (fun _ _ _ h => h) (by kernel_rfl) (by assumption) (by rfl) ?_ (fun hV => ?_)
          rotate_left 1
          · (intro wq; go_simp; try with_reducible rfl)
          clear hU; have hU := hV; clear hV
          try simp only [Act.put, aput]
          refine AnyU.take (i := 1) (v := ?_) rfl (by kernel_rfl) (by kernel_rfl) (by kernel_rfl) (fun _ _ _ h => h) (by kernel_rfl) (by assumption) (by rfl) ?_ (fun hV => ?_)
          rotate_left 1
          · (intro wq; go_simp; try with_reducible rfl)
          clear hU; have hU := hV; clear hV
          try simp only [Act.put, aput]
          refine AnyU.loadc (i := 2) (d := 3) [3] (Si := fun w' => Blk w' bd #[.string n.name, .int .i64 n.ty.kind, .string n.ty.pkg, .int .i64 n.ty.major, .string n.ty.mod, .string n.ty.name, .slice na n.ty.names.length nc, .slice sa n.ty.subs.length sc] 57) (v := ?_) rfl (by kernel_rfl) (by kernel_rfl) (by kernel_rfl) (fun _ _ _ h => h) (by kernel_rfl) (by assumption) (by kernel_rfl) rfl (by simp) (by rfl) ?_ (fun hV => ?_)
          rotate_left 1
          · (intro wq hq; obtain ⟨u0, u1, u2, u3, u4, u5, u6, u7⟩ := cells8 hq; go_simp; try with_reducible rfl)
          clear hU; have hU := hV; clear hV
          try simp only [Act.put, aput]
          refine AnyU.ready1 (i := 3) (by kernel_rfl) (AnyU.one rfl fun K hK => ?_)
          go_simp
          refine (HC1.out _).mono ?_
          rintro e w3 ⟨rfl, hb⟩
          have A3 := Lib.hid (A2.out.trans (hb.mono A2.out.size))
          have BD3 := Lib.hid (BD2.out.under hb BD2.out.lt)
          clear hb
          refine hK.out _ _ (Until.cons (fun h => absurd h (by decide)) (Until.cons (fun _ => BD3.out) Until.nil)) (fun hV => ?_)
          clear hK K
          clear hU; have hU := hV; clear hV
          try simp only [Act.put, aput]
          refine AnyU.take (i := 4) (v := ?_) rfl (by kernel_rfl) (by kernel_rfl) (by kernel_rfl) (fun _ _ _ h => h) (by kernel_rfl) (by assumption) (by rfl) ?_ (fun hV => ?_)
          rotate_left 1
          · (intro wq; go_simp; try with_reducible rfl)
          clear hU; have hU := hV; clear hV
          try simp only [Act.put, aput]
          refine AnyU.take (i := 5) (v := ?_) rfl (by kernel_rfl) (by kernel_rfl) (by kernel_rfl) (fun _ _ _ h => h) (by kernel_rfl) (by assumption) (by rfl) ?_ (fun hV => ?_)
          rotate_left 1
          · (intro wq; go_simp; try with_reducible rfl)
          clear hU; have hU := hV; clear hV
          try simp only [Act.put, aput]
          refine AnyU.take (i := 6) (v := ?_) rfl (by kernel_rfl) (by kernel_rfl) (by kernel_rfl) (fun _ _ _ h => h) (by kernel_rfl) (by assumption) (by rfl) ?_ (fun hV => ?_)
          rotate_left 1
          · (intro wq; go_simp; try with_reducible rfl)
          clear hU; have hU := hV; clear hV
          try simp only [Act.put, aput]
          refine AnyU.take (i := 7) (v := ?_) rfl (by kernel_rfl) (by kernel_rfl) (by kernel_rfl) (fun _ _ _ h => h) (by kernel_rfl) (by assumption) (by rfl) ?_ (fun hV => ?_)
          rotate_left 1
          · (intro wq; go_simp; try with_reducible rfl)
          clear hU; have hU := hV; clear hV
          try simp only [Act.put, aput]
          refine AnyU.take (i := 8) (v := ?_) rfl (by kernel_rfl) (by kernel_rfl) (by kernel_rfl) (fun _ _ _ h => h) (by kernel_rfl) (by assumption) (by rfl) ?_ (fun hV => ?_)
          rotate_left 1
          · (intro wq; go_simp; try with_reducible rfl)
          clear hU; have hU := hV; clear hV
          try simp only [Act.put, aput]
          refine AnyU.skip (i := 9) rfl (by kernel_rfl) (by kernel_rfl) (by kernel_rfl) (fun _ _ _ h => h) (by kernel_rfl) (by assumption) (by rfl) (fun hV => ?_)
          clear hU; have hU := hV; clear hV
          try simp only [Act.put, aput]
          refine AnyU.skip (i := 10) rfl (by kernel_rfl) (by kernel_rfl) (by kernel_rfl) (fun _ _ _ h => h) (by kernel_rfl) (by assumption) (by rfl) (fun hV => ?_)
          clear hU; have hU := hV; clear hV
          try simp only [Act.put, aput]
          refine AnyU.skip (i := 11) rfl (by kernel_rfl) (by kernel_rfl) (by kernel_rfl) (fun _ _ _ h => h) (by kernel_rfl) (by assumption) (by rfl) (fun hV => ?_)
          clear hU; have hU := hV; clear hV
          try simp only [Act.put, aput]
          refine AnyU.skip (i := 12) rfl (by kernel_rfl) (by kernel_rfl) (by kernel_rfl) (fun _ _ _ h => h) (by kernel_rfl) (by assumption) (by rfl) (fun hV => ?_)
          clear hU; have hU := hV; clear hV
          try simp only [Act.put, aput]
          refine AnyU.skip (i := 13) rfl (by kernel_rfl) (by kernel_rfl) (by kernel_rfl) (fun _ _ _ h => h) (by kernel_rfl) (by assumption) (by rfl) (fun hV => ?_)
          clear hU; have hU := hV; clear hV
          try simp only [Act.put, aput]
          refine AnyU.skip (i := 14) rfl (by kernel_rfl) (by kernel_rfl) (by kernel_rfl) (fun _ _ _ h => h) (by kernel_rfl) (by assumption) (by rfl) (fun hV => ?_)
          clear hU; have hU := hV; clear hV
          try simp only [Act.put, aput]
          refine AnyU.skip (i := 15) rfl (by kernel_rfl) (by kernel_rfl) (by kernel_rfl) (fun _ _ _ h => h) (by kernel_rfl) (by assumption) (by rfl) (fun hV => ?_)
          clear hU; have hU := hV; clear hV
          try simp only [Act.put, aput]
          refine AnyU.skip (i := 16) rfl (by kernel_rfl) (by kernel_rfl) (by kernel_rfl) (fun _ _ _ h => h) (by kernel_rfl) (by assumption) (by rfl) (fun hV => ?_)
          clear hU; have hU := hV; clear hV
          try simp only [Act.put, aput]
          refine AnyU.skip (i := 17) rfl (by kernel_rfl) (by kernel_rfl) (by kernel_rfl) (fun _ _ _ h => h) (by kernel_rfl) (by assumption) (by rfl) (fun hV => ?_)
          clear hU; have hU := hV; clear hV
          try simp only [Act.put, aput]
          refine AnyU.take (i := 18) (v := ?_) rfl (by kernel_rfl) (by kernel_rfl) (by kernel_rfl) (fun _ _ _ h => h) (by kernel_rfl) (by assumption) (by rfl) ?_ (fun hV => ?_)
          rotate_left 1
          · (intro wq; go_simp; try with_reducible rfl)
          clear hU; have hU := hV; clear hV
          try simp only [Act.put, aput]
          refine AnyU.take (i := 19) (v := ?_) rfl (by kernel_rfl) (by kernel_rfl) (by kernel_rfl) (fun _ _ _ h => h) (by kernel_rfl) (by assumption) (by rfl) ?_ (fun hV => ?_)
          rotate_left 1
          · (intro wq; go_simp; try with_reducible rfl)
          clear hU; have hU := hV; clear hV
          try simp only [Act.put, aput]
          refine AnyU.take (i := 20) (v := ?_) rfl (by kernel_rfl) (by kernel_rfl) (by kernel_rfl) (fun _ _ _ h => h) (by kernel_rfl) (by assumption) (by rfl) ?_ (fun hV => ?_)
          rotate_left 1
          · (intro wq; go_simp; try with_reducible rfl)
          clear hU; have hU := hV; clear hV
          try simp only [Act.put, aput]
          refine AnyU.take (i := 21) (v := ?_) rfl (by kernel_rfl) (by kernel_rfl) (by kernel_rfl) (fun _ _ _ h => h) (by kernel_rfl) (by assumption) (by rfl) ?_ (fun hV => ?_)
          rotate_left 1
          · (intro wq; go_simp; try with_reducible rfl)
          clear hU; have hU := hV; clear hV
          try simp only [Act.put, aput]
          refine AnyU.loadc (i := 22) (d := 23) [23] (Si := fun w' => Blk w' bd #[.string n.name, .int .i64 n.ty.kind, .string n.ty.pkg, .int .i64 n.ty.major, .string n.ty.mod, .string n.ty.name, .slice na n.ty.names.length nc, .slice sa n.ty.subs.length sc] 57) (v := ?_) rfl (by kernel_rfl) (by kernel_rfl) (by kernel_rfl) (fun _ _ _ h => h) (by kernel_rfl) (by assumption) (by kernel_rfl) rfl (by simp) (by rfl) ?_ (fun hV => ?_)
          rotate_left 1
          · (intro wq hq; obtain ⟨u0, u1, u2, u3, u4, u5, u6, u7⟩ := cells8 hq; go_simp; try with_reducible rfl)
          clear hU; have hU := hV; clear hV
          try simp only [Act.put, aput]
          refine AnyU.ready1 (i := 23) (by kernel_rfl) (AnyU.one rfl fun K hK => ?_)
          go_simp
          go_at_call 56
          refine (HC2.out _ (HTY.out.under (A3.out.mono hBW)) (Nat.le_trans hBW A3.out.size)).mono ?_
          rintro e w4 ⟨rfl, hb⟩
          have A4 := Lib.hid (A3.out.trans (hb.mono A3.out.size))
          have BD4 := Lib.hid (BD3.out.under hb BD3.out.lt)
          clear hb
          refine hK.out _ _ (Until.cons (fun h => absurd h (by decide)) (Until.cons (fun h => absurd h (by decide)) Until.nil)) (fun hV => ?_)
          clear hK K
          clear hU; have hU := hV; clear hV
          try simp only [Act.put, aput]
          refine AnyU.take (i := 24) (v := ?_) rfl (by kernel_rfl) (by kernel_rfl) (by kernel_rfl) (fun _ _ _ h => h) (by kernel_rfl) (by assumption) (by rfl) ?_ (fun hV => ?_)
          rotate_left 1
          · (intro wq; go_simp; try with_reducible rfl)
          clear hU; have hU := hV; clear hV
          try simp only [Act.put, aput]
          refine AnyU.ready1 (i := 25) (by kernel_rfl) (AnyU.one rfl fun K hK => ?_)
          go_simp
          refine hK.out _ _ (Until.off (by kernel_rfl)) (fun hV => ?_)
          clear hK K
          clear hU; have hU := hV; clear hV
          try simp only [Act.put, aput]
          refine AnyU.done (by kernel_rfl) ?_
          go_wp2_with fail
          go_ret
          exact ⟨rfl, A4.out⟩
      · as_aux_lemma =>
          have hok : nmOk p l 0 = true := by rw [HDO.out]; rfl
          refine wp_region_until [(3, fun w' => Blk w' bd #[.string n.name, .int .i64 n.ty.kind, .string n.ty.pkg, .int .i64 n.ty.major, .string n.ty.mod, .string n.ty.name, .slice na n.ty.names.length nc, .slice sa n.ty.subs.length sc] 57), (23, fun w' => Blk w' bd #[.string n.name, .int .i64 n.ty.kind, .string n.ty.pkg, .int .i64 n.ty.major, .string n.ty.mod, .string n.ty.name, .slice na n.ty.names.length nc, .slice sa n.ty.subs.length sc] 57)] (by kernel_rfl) (Until.cons (fun _ => BD.out.drew) (Until.cons (fun _ => BD.out.drew) Until.nil)) (fun hU => ?_)
          have A2d := Lib.hid A2.out.drew
          clear A2
          have A2 := A2d
          clear A2d
          have BD2 := Lib.hid BD.out.drew
          refine AnyU.take (i := 0) (v := ?_) rfl (by kernel_rfl) (by kernel_rfl) (by kernel_rfl) (fun _ _ _ h => h) (by kernel_rfl) (by assumption) (by rfl) ?_ (fun hV => ?_)
          rotate_left 1
          · (intro wq; go_simp; try with_reducible rfl)
          clear hU; have hU := hV; clear hV
          try simp only [Act.put, aput]
          refine AnyU.take (i := 1) (v := ?_) rfl (by kernel_rfl) (by kernel_rfl) (by kernel_rfl) (fun _ _ _ h => h) (by kernel_rfl) (by assumption) (by rfl) ?_ (fun hV => ?_)
          rotate_left 1
          · (intro wq; go_simp; try with_reducible rfl)
          clear hU; have hU := hV; clear hV
          try simp only [Act.put, aput]
          refine AnyU.loadc (i := 2) (d := 3) [3] (Si := fun w' => Blk w' bd #[.string n.name, .int .i64 n.ty.kind, .string n.ty.pkg, .int .i64 n.ty.major, .string n.ty.mod, .string n.ty.name, .slice na n.ty.names.length nc, .slice sa n.ty.subs.length sc] 57) (v := ?_) rfl (by kernel_rfl) (by kernel_rfl) (by kernel_rfl) (fun _ _ _ h => h) (by kernel_rfl) (by assumption) (by kernel_rfl) rfl (by simp) (by rfl) ?_ (fun hV => ?_)
          rotate_left 1
          · (intro wq hq; obtain ⟨u0, u1, u2, u3, u4, u5, u6, u7⟩ := cells8 hq; go_simp; try with_reducible rfl)
          clear hU; have hU := hV; clear hV
          try simp only [Act.put, aput]
          refine AnyU.ready1 (i := 3) (by kernel_rfl) (AnyU.one rfl fun K hK => ?_)
          go_simp
          refine (HC1.out _).mono ?_
          rintro e w3 ⟨rfl, hb⟩
          have A3 := Lib.hid (A2.out.trans (hb.mono A2.out.size))
          have BD3 := Lib.hid (BD2.out.under hb BD2.out.lt)
          clear hb
          refine hK.out _ _ (Until.cons (fun h => absurd h (by decide)) (Until.cons (fun _ => BD3.out) Until.nil)) (fun hV => ?_)
          clear hK K
          clear hU; have hU := hV; clear hV
          try simp only [Act.put, aput]
          refine AnyU.take (i := 4) (v := ?_) rfl (by kernel_rfl) (by kernel_rfl) (by kernel_rfl) (fun _ _ _ h => h) (by kernel_rfl) (by assumption) (by rfl) ?_ (fun hV => ?_)
          rotate_left 1
          · (intro wq; go_simp; try with_reducible rfl)
          clear hU; have hU := hV; clear hV
          try simp only [Act.put, aput]
          refine AnyU.take (i := 5) (v := ?_) rfl (by kernel_rfl) (by kernel_rfl) (by kernel_rfl) (fun _ _ _ h => h) (by kernel_rfl) (by assumption) (by rfl) ?_ (fun hV => ?_)
          rotate_left 1
          · (intro wq; go_simp; try with_reducible rfl)
          clear hU; have hU := hV; clear hV
          try simp only [Act.put, aput]
          refine AnyU.take (i := 6) (v := ?_) rfl (by kernel_rfl) (by kernel_rfl) (by kernel_rfl) (fun _ _ _ h => h) (by kernel_rfl) (by assumption) (by rfl) ?_ (fun hV => ?_)
          rotate_left 1
          · (intro wq; go_simp; try with_reducible rfl)
          clear hU; have hU := hV; clear hV
          try simp only [Act.put, aput]
          refine AnyU.take (i := 7) (v := ?_) rfl (by kernel_rfl) (by kernel_rfl) (by kernel_rfl) (fun _ _ _ h => h) (by kernel_rfl) (by assumption) (by rfl) ?_ (fun hV => ?_)
          rotate_left 1
          · (intro wq; go_simp; try with_reducible rfl)
          clear hU; have hU := hV; clear hV
          try simp only [Act.put, aput]
          refine AnyU.take (i := 8) (v := ?_) rfl (by kernel_rfl) (by kernel_rfl) (by kernel_rfl) (fun _ _ _ h => h) (by kernel_rfl) (by assumption) (by rfl) ?_ (fun hV => ?_)
          rotate_left 1
          · (intro wq; go_simp; try with_reducible rfl)
          clear hU; have hU := hV; clear hV
          try simp only [Act.put, aput]
          refine AnyU.skip (i := 9) rfl (by kernel_rfl) (by kernel_rfl) (by kernel_rfl) (fun _ _ _ h => h) (by kernel_rfl) (by assumption) (by rfl) (fun hV => ?_)
          clear hU; have hU := hV; clear hV
          try simp only [Act.put, aput]
          refine AnyU.skip (i := 10) rfl (by kernel_rfl) (by kernel_rfl) (by kernel_rfl) (fun _ _ _ h => h) (by kernel_rfl) (by assumption) (by rfl) (fun hV => ?_)
          clear hU; have hU := hV; clear hV
          try simp only [Act.put, aput]
          refine AnyU.skip (i := 11) rfl (by kernel_rfl) (by kernel_rfl) (by kernel_rfl) (fun _ _ _ h => h) (by kernel_rfl) (by assumption) (by rfl) (fun hV => ?_)
          clear hU; have hU := hV; clear hV
          try simp only [Act.put, aput]
          refine AnyU.skip (i := 12) rfl (by kernel_rfl) (by kernel_rfl) (by kernel_rfl) (fun _ _ _ h => h) (by kernel_rfl) (by assumption) (by rfl) (fun hV => ?_)
          clear hU; have hU := hV; clear hV
          try simp only [Act.put, aput]
          refine AnyU.skip (i := 13) rfl (by kernel_rfl) (by kernel_rfl) (by kernel_rfl) (fun _ _ _ h => h) (by kernel_rfl) (by assumption) (by rfl) (fun hV => ?_)
          clear hU; have hU := hV; clear hV
          try simp only [Act.put, aput]
          refine AnyU.skip (i := 14) rfl (by kernel_rfl) (by kernel_rfl) (by kernel_rfl) (fun _ _ _ h => h) (by kernel_rfl) (by assumption) (by rfl) (fun hV => ?_)
          clear hU; have hU := hV; clear hV
          try simp only [Act.put, aput]
          refine AnyU.skip (i := 15) rfl (by kernel_rfl) (by kernel_rfl) (by kernel_rfl) (fun _ _ _ h => h) (by kernel_rfl) (by assumption) (by rfl) (fun hV => ?_)
          clear hU; have hU := hV; clear hV
          try simp only [Act.put, aput]
          refine AnyU.skip (i := 16) rfl (by kernel_rfl) (by kernel_rfl) (by kernel_rfl) (fun _ _ _ h => h) (by kernel_rfl) (by assumption) (by rfl) (fun hV => ?_)
          clear hU; have hU := hV; clear hV
          try simp only [Act.put, aput]
          refine AnyU.skip (i := 17) rfl (by kernel_rfl) (by kernel_rfl) (by kernel_rfl) (fun _ _ _ h => h) (by kernel_rfl) (by assumption) (by rfl) (fun hV => ?_)
          clear hU; have hU := hV; clear hV
          try simp only [Act.put, aput]
          refine AnyU.take (i := 18) (v := ?_) rfl (by kernel_rfl) (by kernel_rfl) (by kernel_rfl) (fun _ _ _ h => h) (by kernel_rfl) (by assumption) (by rfl) ?_ (fun hV => ?_)
          rotate_left 1
          · (intro wq; go_simp; try with_reducible rfl)
          clear hU; have hU := hV; clear hV
          try simp only [Act.put, aput]
          refine AnyU.take (i := 19) (v := ?_) rfl (by kernel_rfl) (by kernel_rfl) (by kernel_rfl) (fun _ _ _ h => h) (by kernel_rfl) (by assumption) (by rfl) ?_ (fun hV => ?_)
          rotate_left 1
          · (intro wq; go_simp; try with_reducible rfl)
          clear hU; have hU := hV; clear hV
          try simp only [Act.put, aput]
          refine AnyU.take (i := 20) (v := ?_) rfl (by kernel_rfl) (by kernel_rfl) (by kernel_rfl) (fun _ _ _ h => h) (by kernel_rfl) (by assumption) (by rfl) ?_ (fun hV => ?_)
          rotate_left 1
          · (intro wq; go_simp; try with_reducible rfl)
          clear hU; have hU := hV; clear hV
          try simp only [Act.put, aput]
          refine AnyU.take (i := 21) (v := ?_) rfl (by kernel_rfl) (by kernel_rfl) (by kernel_rfl) (fun _ _ _ h => h) (by kernel_rfl) (by assumption) (by rfl) ?_ (fun hV => ?_)
          rotate_left 1
          · (intro wq; go_simp; try with_reducible rfl)
          clear hU; have hU := hV; clear hV
          try simp only [Act.put, aput]
          refine AnyU.loadc (i := 22) (d := 23) [23] (Si := fun w' => Blk w' bd #[.string n.name, .int .i64 n.ty.kind, .string n.ty.pkg, .int .i64 n.ty.major, .string n.ty.mod, .string n.ty.name, .slice na n.ty.names.length nc, .slice sa n.ty.subs.length sc] 57) (v := ?_) rfl (by kernel_rfl) (by kernel_rfl) (by kernel_rfl) (fun _ _ _ h => h) (by kernel_rfl) (by assumption) (by kernel_rfl) rfl (by simp) (by rfl) ?_ (fun hV => ?_)
          rotate_left 1
          · (intro wq hq; obtain ⟨u0, u1, u2, u3, u4, u5, u6, u7⟩ := cells8 hq; go_simp; try with_reducible rfl)
          clear hU; have hU := hV; clear hV
          try simp only [Act.put, aput]
          refine AnyU.ready1 (i := 23) (by kernel_rfl) (AnyU.one rfl fun K hK => ?_)
          go_simp
          go_at_call 56
          refine (HC2.out _ (HTY.out.under (A3.out.mono hBW)) (Nat.le_trans hBW A3.out.size)).mono ?_
          rintro e w4 ⟨rfl, hb⟩
          have A4 := Lib.hid (A3.out.trans (hb.mono A3.out.size))
          have BD4 := Lib.hid (BD3.out.under hb BD3.out.lt)
          clear hb
          refine hK.out _ _ (Until.cons (fun h => absurd h (by decide)) (Until.cons (fun h => absurd h (by decide)) Until.nil)) (fun hV => ?_)
          clear hK K
          clear hU; have hU := hV; clear hV
          try simp only [Act.put, aput]
          refine AnyU.take (i := 24) (v := ?_) rfl (by kernel_rfl) (by kernel_rfl) (by kernel_rfl) (fun _ _ _ h => h) (by kernel_rfl) (by assumption) (by rfl) ?_ (fun hV => ?_)
          rotate_left 1
          · (intro wq; go_simp; try with_reducible rfl)
          clear hU; have hU := hV; clear hV
          try simp only [Act.put, aput]
          refine AnyU.ready1 (i := 25) (by kernel_rfl) (AnyU.one rfl fun K hK => ?_)
          go_simp
          refine hK.out _ _ (Until.off (by kernel_rfl)) (fun hV => ?_)
          clear hK K
          clear hU; have hU := hV; clear hV
          try simp only [Act.put, aput]
          refine AnyU.done (by kernel_rfl) ?_
          go_wp2_with fail
          exact ⟨⟨0 + 1, by go_num, by omega, A4.out, fun i hi => by obtain rfl : i = 0 := by omega
                                                                     exact hok⟩, by simp [intOf]; omega⟩
    have hk0I : (0 : Int) < (k : Int) := by omega
    have hk0D : decide (0 < k) = true := by simp; omega
    have hkB : ((k - 1 : Nat) : Int) < (l.length : Int) := by omega
    have hkB2 : k - 1 < l.length := by omega
    have hkw : IntKind.i64.wrap ((k - 1 : Nat) : Int) = ((k - 1 : Nat) : Int) := by rw [IntKind.wrap_i64]; omega
    have hkm : (k : Int) - 1 = ((k - 1 : Nat) : Int) := by omega
    obtain ⟨q, hq⟩ : ∃ q, (l[k - 1]'(by omega)).name = q := ⟨_, rfl⟩
    obtain ⟨-, b', o', -, -, -, -, e', -, -, hcq, -⟩ := H.out.elem hkB2 rfl
    injection e' with e'
    injection e' with e1 e2
    subst e1 e2
    rw [hq] at hcq
    have HCQ := Lib.hid hcq
    rw [hq] at HDO
    obtain ⟨lt, hlt2⟩ : ∃ x, ltB q n.name = x := ⟨_, rfl⟩
    rw [hlt2] at HDO
    have HLT := Lib.hid (show Op.bytesLess q.toList n.name.toList = lt from hlt2)
    clear hcq hlt2 hq
    cases lt
    · as_aux_lemma =>
        have hbad := named_bad hlt (by rw [HDO.out]; simp [h0])
        rw [HR.out] at hbad
        subst hbad
        have hl3 := HLT.out
        refine wp_region_until [(3, fun w' => Blk w' bd #[.string n.name, .int .i64 n.ty.kind, .string n.ty.pkg, .int .i64 n.ty.major, .string n.ty.mod, .string n.ty.name, .slice na n.ty.names.length nc, .slice sa n.ty.subs.length sc] 57), (25, fun w' => Blk w' bd #[.string n.name, .int .i64 n.ty.kind, .string n.ty.pkg, .int .i64 n.ty.major, .string n.ty.mod, .string n.ty.name, .slice na n.ty.names.length nc, .slice sa n.ty.subs.length sc] 57), (25, fun w' => w'.cell? ⟨b, o + (k - 1) * 8, none⟩ = some (.string q))] (by kernel_rfl) (Until.cons (fun _ => BD.out.drew) (Until.cons (fun _ => BD.out.drew) (Until.cons (fun _ => ((A2.out.cell (p := ⟨b, _, none⟩) hbW).trans HCQ.out)) Until.nil))) (fun hU => ?_)
        have A2d := Lib.hid A2.out.drew
        clear A2
        have A2 := A2d
        clear A2d
        have BD2 := Lib.hid BD.out.drew
        refine AnyU.take (i := 0) (v := ?_) rfl (by kernel_rfl) (by kernel_rfl) (by kernel_rfl) (fun _ _ _ h => h) (by kernel_rfl) (by assumption) (by rfl) ?_ (fun hV => ?_)
        rotate_left 1
        · (intro wq; go_simp; try with_reducible rfl)
        clear hU; have hU := hV; clear hV
        try simp only [Act.put, aput]
        refine AnyU.take (i := 1) (v := ?_) rfl (by kernel_rfl) (by kernel_rfl) (by kernel_rfl) (fun _ _ _ h => h) (by kernel_rfl) (by assumption) (by rfl) ?_ (fun hV => ?_)
        rotate_left 1
        · (intro wq; go_simp; try with_reducible rfl)
        clear hU; have hU := hV; clear hV
        try simp only [Act.put, aput]
        refine AnyU.loadc (i := 2) (d := 3) [3] (Si := fun w' => Blk w' bd #[.string n.name, .int .i64 n.ty.kind, .string n.ty.pkg, .int .i64 n.ty.major, .string n.ty.mod, .string n.ty.name, .slice na n.ty.names.length nc, .slice sa n.ty.subs.length sc] 57) (v := ?_) rfl (by kernel_rfl) (by kernel_rfl) (by kernel_rfl) (fun _ _ _ h => h) (by kernel_rfl) (by assumption) (by kernel_rfl) rfl (by simp) (by rfl) ?_ (fun hV => ?_)
        rotate_left 1
        · (intro wq hq; obtain ⟨u0, u1, u2, u3, u4, u5, u6, u7⟩ := cells8 hq; go_simp; try with_reducible rfl)
        clear hU; have hU := hV; clear hV
        try simp only [Act.put, aput]
        refine AnyU.ready1 (i := 3) (by kernel_rfl) (AnyU.one rfl fun K hK => ?_)
        go_simp
        refine (HC1.out _).mono ?_
        rintro e w3 ⟨rfl, hb⟩
        have A3 := Lib.hid (A2.out.trans (hb.mono A2.out.size))
        have BD3 := Lib.hid (BD2.out.under hb BD2.out.lt)
        clear hb
        refine hK.out _ _ (Until.cons (fun h => absurd h (by decide)) (Until.cons (fun _ => BD3.out) (Until.cons (fun _ => (A3.out.cell (p := ⟨b, _, none⟩) hbW).trans HCQ.out) Until.nil))) (fun hV => ?_)
        clear hK K
        clear hU; have hU := hV; clear hV
        try simp only [Act.put, aput]
        refine AnyU.take (i := 4) (v := ?_) rfl (by kernel_rfl) (by kernel_rfl) (by kernel_rfl) (fun _ _ _ h => h) (by kernel_rfl) (by assumption) (by rfl) ?_ (fun hV => ?_)
        rotate_left 1
        · (intro wq; go_simp; try with_reducible rfl)
        clear hU; have hU := hV; clear hV
        try simp only [Act.put, aput]
        refine AnyU.take (i := 5) (v := ?_) rfl (by kernel_rfl) (by kernel_rfl) (by kernel_rfl) (fun _ _ _ h => h) (by kernel_rfl) (by assumption) (by rfl) ?_ (fun hV => ?_)
        rotate_left 1
        · (intro wq; go_simp; try with_reducible rfl)
        clear hU; have hU := hV; clear hV
        try simp only [Act.put, aput]
        refine AnyU.take (i := 6) (v := ?_) rfl (by kernel_rfl) (by kernel_rfl) (by kernel_rfl) (fun _ _ _ h => h) (by kernel_rfl) (by assumption) (by rfl) ?_ (fun hV => ?_)
        rotate_left 1
        · (intro wq; go_simp; try with_reducible rfl)
        clear hU; have hU := hV; clear hV
        try simp only [Act.put, aput]
        refine AnyU.take (i := 7) (v := ?_) rfl (by kernel_rfl) (by kernel_rfl) (by kernel_rfl) (fun _ _ _ h => h) (by kernel_rfl) (by assumption) (by rfl) ?_ (fun hV => ?_)
        rotate_left 1
        · (intro wq; go_simp; try with_reducible rfl)
        clear hU; have hU := hV; clear hV
        try simp only [Act.put, aput]
        refine AnyU.take (i := 8) (v := ?_) rfl (by kernel_rfl) (by kernel_rfl) (by kernel_rfl) (fun _ _ _ h => h) (by kernel_rfl) (by assumption) (by rfl) ?_ (fun hV => ?_)
        rotate_left 1
        · (intro wq; go_simp; try with_reducible rfl)
        clear hU; have hU := hV; clear hV
        try simp only [Act.put, aput]
        refine AnyU.take (i := 9) (v := ?_) rfl (by kernel_rfl) (by kernel_rfl) (by kernel_rfl) (fun _ _ _ h => h) (by kernel_rfl) (by assumption) (by rfl) ?_ (fun hV => ?_)
        rotate_left 1
        · (intro wq; go_simp; try with_reducible rfl)
        clear hU; have hU := hV; clear hV
        try simp only [Act.put, aput]
        refine AnyU.take (i := 10) (v := ?_) rfl (by kernel_rfl) (by kernel_rfl) (by kernel_rfl) (fun _ _ _ h => h) (by kernel_rfl) (by assumption) (by rfl) ?_ (fun hV => ?_)
        rotate_left 1
        · (intro wq; go_simp; try with_reducible rfl)
        clear hU; have hU := hV; clear hV
        try simp only [Act.put, aput]
        refine AnyU.take (i := 11) (v := ?_) rfl (by kernel_rfl) (by kernel_rfl) (by kernel_rfl) (fun _ _ _ h => h) (by kernel_rfl) (by assumption) (by rfl) ?_ (fun hV => ?_)
        rotate_left 1
        · (intro wq; go_simp; try with_reducible rfl)
        clear hU; have hU := hV; clear hV
        try simp only [Act.put, aput]
        refine AnyU.take (i := 12) (v := ?_) rfl (by kernel_rfl) (by kernel_rfl) (by kernel_rfl) (fun _ _ _ h => h) (by kernel_rfl) (by assumption) (by rfl) ?_ (fun hV => ?_)
        rotate_left 1
        · (intro wq; go_simp; try with_reducible rfl)
        clear hU; have hU := hV; clear hV
        try simp only [Act.put, aput]
        refine AnyU.take (i := 13) (v := ?_) rfl (by kernel_rfl) (by kernel_rfl) (by kernel_rfl) (fun _ _ _ h => h) (by kernel_rfl) (by assumption) (by rfl) ?_ (fun hV => ?_)
        rotate_left 1
        · (intro wq; go_simp; try with_reducible rfl)
        clear hU; have hU := hV; clear hV
        try simp only [Act.put, aput]
        refine AnyU.loadc (i := 14) (d := 25) [17, 18, 19, 20, 25] (Si := fun w' => w'.cell? ⟨b, o + (k - 1) * 8, none⟩ = some (.string q)) (v := ?_) rfl (by kernel_rfl) (by kernel_rfl) (by kernel_rfl) (fun _ _ _ h => h) (by kernel_rfl) (by assumption) (by kernel_rfl) rfl (by simp) (by rfl) ?_ (fun hV => ?_)
        rotate_left 1
        · (intro wq hq; go_simp; try with_reducible rfl)
        clear hU; have hU := hV; clear hV
        try simp only [Act.put, aput]
        refine AnyU.take (i := 15) (v := ?_) rfl (by kernel_rfl) (by kernel_rfl) (by kernel_rfl) (fun _ _ _ h => h) (by kernel_rfl) (by assumption) (by rfl) ?_ (fun hV => ?_)
        rotate_left 1
        · (intro wq; go_simp; try with_reducible rfl)
        clear hU; have hU := hV; clear hV
        try simp only [Act.put, aput]
        refine AnyU.loadc (i := 16) (d := 25) [17, 18, 19, 20, 25] (Si := fun w' => Blk w' bd #[.string n.name, .int .i64 n.ty.kind, .string n.ty.pkg, .int .i64 n.ty.major, .string n.ty.mod, .string n.ty.name, .slice na n.ty.names.length nc, .slice sa n.ty.subs.length sc] 57) (v := ?_) rfl (by kernel_rfl) (by kernel_rfl) (by kernel_rfl) (fun _ _ _ h => h) (by kernel_rfl) (by assumption) (by kernel_rfl) rfl (by simp) (by rfl) ?_ (fun hV => ?_)
        rotate_left 1
        · (intro wq hq; obtain ⟨u0, u1, u2, u3, u4, u5, u6, u7⟩ := cells8 hq; go_simp; try with_reducible rfl)
        clear hU; have hU := hV; clear hV
        try simp only [Act.put, aput]
        refine AnyU.take (i := 17) (v := ?_) rfl (by kernel_rfl) (by kernel_rfl) (by kernel_rfl) (fun _ _ _ h => h) (by kernel_rfl) (by assumption) (by rfl) ?_ (fun hV => ?_)
        rotate_left 1
        · (intro wq; go_simp; try with_reducible rfl)
        clear hU; have hU := hV; clear hV
        try simp only [Act.put, aput]
        refine AnyU.take (i := 18) (v := ?_) rfl (by kernel_rfl) (by kernel_rfl) (by kernel_rfl) (fun _ _ _ h => h) (by kernel_rfl) (by assumption) (by rfl) ?_ (fun hV => ?_)
        rotate_left 1
        · (intro wq; go_simp; try with_reducible rfl)
        clear hU; have hU := hV; clear hV
        try simp only [Act.put, aput]
        refine AnyU.take (i := 19) (v := ?_) rfl (by kernel_rfl) (by kernel_rfl) (by kernel_rfl) (fun _ _ _ h => h) (by kernel_rfl) (by assumption) (by rfl) ?_ (fun hV => ?_)
        rotate_left 1
        · (intro wq; go_simp; try with_reducible rfl)
        clear hU; have hU := hV; clear hV
        try simp only [Act.put, aput]
        refine AnyU.take (i := 20) (v := ?_) rfl (by kernel_rfl) (by kernel_rfl) (by kernel_rfl) (fun _ _ _ h => h) (by kernel_rfl) (by assumption) (by rfl) ?_ (fun hV => ?_)
        rotate_left 1
        · (intro wq; go_simp; try with_reducible rfl)
        clear hU; have hU := hV; clear hV
        try simp only [Act.put, aput]
        refine AnyU.skip (i := 21) rfl (by kernel_rfl) (by kernel_rfl) (by kernel_rfl) (fun _ _ _ h => h) (by kernel_rfl) (by assumption) (by rfl) (fun hV => ?_)
        clear hU; have hU := hV; clear hV
        try simp only [Act.put, aput]
        refine AnyU.skip (i := 22) rfl (by kernel_rfl) (by kernel_rfl) (by kernel_rfl) (fun _ _ _ h => h) (by kernel_rfl) (by assumption) (by rfl) (fun hV => ?_)
        clear hU; have hU := hV; clear hV
        try simp only [Act.put, aput]
        refine AnyU.skip (i := 23) rfl (by kernel_rfl) (by kernel_rfl) (by kernel_rfl) (fun _ _ _ h => h) (by kernel_rfl) (by assumption) (by rfl) (fun hV => ?_)
        clear hU; have hU := hV; clear hV
        try simp only [Act.put, aput]
        refine AnyU.skip (i := 24) rfl (by kernel_rfl) (by kernel_rfl) (by kernel_rfl) (fun _ _ _ h => h) (by kernel_rfl) (by assumption) (by rfl) (fun hV => ?_)
        clear hU; have hU := hV; clear hV
        try simp only [Act.put, aput]
        refine AnyU.ready1 (i := 25) (by kernel_rfl) (AnyU.one rfl fun K hK => ?_)
        go_simp
        refine hK.out _ _ (Until.off (by kernel_rfl)) (fun hV => ?_)
        clear hK K
        clear hU; have hU := hV; clear hV
        try simp only [Act.put, aput]
        refine AnyU.done (by kernel_rfl) ?_
        go_wp2_with fail
        go_ret
        exact ⟨rfl, A3.out⟩
    cases pl
    · as_aux_lemma =>
        have hbad := named_bad hlt (by rw [HDO.out]; simp)
        rw [HR.out] at hbad
        subst hbad
        have hl3 := HLT.out
        refine wp_region_until [(3, fun w' => Blk w' bd #[.string n.name, .int .i64 n.ty.kind, .string n.ty.pkg, .int .i64 n.ty.major, .string n.ty.mod, .string n.ty.name, .slice na n.ty.names.length nc, .slice sa n.ty.subs.length sc] 57), (23, fun w' => Blk w' bd #[.string n.name, .int .i64 n.ty.kind, .string n.ty.pkg, .int .i64 n.ty.major, .string n.ty.mod, .string n.ty.name, .slice na n.ty.names.length nc, .slice sa n.ty.subs.length sc] 57), (25, fun w' => Blk w' bd #[.string n.name, .int .i64 n.ty.kind, .string n.ty.pkg, .int .i64 n.ty.major, .string n.ty.mod, .string n.ty.name, .slice na n.ty.names.length nc, .slice sa n.ty.subs.length sc] 57), (25, fun w' => w'.cell? ⟨b, o + (k - 1) * 8, none⟩ = some (.string q))] (by kernel_rfl) (Until.cons (fun _ => BD.out.drew) (Until.cons (fun _ => BD.out.drew) (Until.cons (fun _ => BD.out.drew) (Until.cons (fun _ => ((A2.out.cell (p := ⟨b, _, none⟩) hbW).trans HCQ.out)) Until.nil)))) (fun hU => ?_)
        have A2d := Lib.hid A2.out.drew
        clear A2
        have A2 := A2d
        clear A2d
        have BD2 := Lib.hid BD.out.drew
        refine AnyU.take (i := 0) (v := ?_) rfl (by kernel_rfl) (by kernel_rfl) (by kernel_rfl) (fun _ _ _ h => h) (by kernel_rfl) (by assumption) (by rfl) ?_ (fun hV => ?_)
        rotate_left 1
        · (intro wq; go_simp; try with_reducible rfl)
        clear hU; have hU := hV; clear hV
        try simp only [Act.put, aput]
        refine AnyU.take (i := 1) (v := ?_) rfl (by kernel_rfl) (by kernel_rfl) (by kernel_rfl) (fun _ _ _ h => h) (by kernel_rfl) (by assumption) (by rfl) ?_ (fun hV => ?_)
        rotate_left 1
        · (intro wq; go_simp; try with_reducible rfl)
        clear hU; have hU := hV; clear hV
        try simp only [Act.put, aput]
        refine AnyU.loadc (i := 2) (d := 3) [3] (Si := fun w' => Blk w' bd #[.string n.name, .int .i64 n.ty.kind, .string n.ty.pkg, .int .i64 n.ty.major, .string n.ty.mod, .string n.ty.name, .slice na n.ty.names.length nc, .slice sa n.ty.subs.length sc] 57) (v := ?_) rfl (by kernel_rfl) (by kernel_rfl) (by kernel_rfl) (fun _ _ _ h => h) (by kernel_rfl) (by assumption) (by kernel_rfl) rfl (by simp) (by rfl) ?_ (fun hV => ?_)
        rotate_left 1
        · (intro wq hq; obtain ⟨u0, u1, u2, u3, u4, u5, u6, u7⟩ := cells8 hq; go_simp; try with_reducible rfl)
        clear hU; have hU := hV; clear hV
        try simp only [Act.put, aput]
        refine AnyU.ready1 (i := 3) (by kernel_rfl) (AnyU.one rfl fun K hK => ?_)
        go_simp
        refine (HC1.out _).mono ?_
        rintro e w3 ⟨rfl, hb⟩
        have A3 := Lib.hid (A2.out.trans (hb.mono A2.out.size))
        have BD3 := Lib.hid (BD2.out.under hb BD2.out.lt)
        clear hb
        refine hK.out _ _ (Until.cons (fun h => absurd h (by decide)) (Until.cons (fun _ => BD3.out) (Until.cons (fun _ => BD3.out) (Until.cons (fun _ => (A3.out.cell (p := ⟨b, _, none⟩) hbW).trans HCQ.out) Until.nil)))) (fun hV => ?_)
        clear hK K
        clear hU; have hU := hV; clear hV
        try simp only [Act.put, aput]
        refine AnyU.take (i := 4) (v := ?_) rfl (by kernel_rfl) (by kernel_rfl) (by kernel_rfl) (fun _ _ _ h => h) (by kernel_rfl) (by assumption) (by rfl) ?_ (fun hV => ?_)
        rotate_left 1
        · (intro wq; go_simp; try with_reducible rfl)
        clear hU; have hU := hV; clear hV
        try simp only [Act.put, aput]
        refine AnyU.take (i := 5) (v := ?_) rfl (by kernel_rfl) (by kernel_rfl) (by kernel_rfl) (fun _ _ _ h => h) (by kernel_rfl) (by assumption) (by rfl) ?_ (fun hV => ?_)
        rotate_left 1
        · (intro wq; go_simp; try with_reducible rfl)
        clear hU; have hU := hV; clear hV
        try simp only [Act.put, aput]
        refine AnyU.take (i := 6) (v := ?_) rfl (by kernel_rfl) (by kernel_rfl) (by kernel_rfl) (fun _ _ _ h => h) (by kernel_rfl) (by assumption) (by rfl) ?_ (fun hV => ?_)
        rotate_left 1
        · (intro wq; go_simp; try with_reducible rfl)
        clear hU; have hU := hV; clear hV
        try simp only [Act.put, aput]
        refine AnyU.take (i := 7) (v := ?_) rfl (by kernel_rfl) (by kernel_rfl) (by kernel_rfl) (fun _ _ _ h => h) (by kernel_rfl) (by assumption) (by rfl) ?_ (fun hV => ?_)
        rotate_left 1
        · (intro wq; go_simp; try with_reducible rfl)
        clear hU; have hU := hV; clear hV
        try simp only [Act.put, aput]
        refine AnyU.take (i := 8) (v := ?_) rfl (by kernel_rfl) (by kernel_rfl) (by kernel_rfl) (fun _ _ _ h => h) (by kernel_rfl) (by assumption) (by rfl) ?_ (fun hV => ?_)
        rotate_left 1
        · (intro wq; go_simp; try with_reducible rfl)
        clear hU; have hU := hV; clear hV
        try simp only [Act.put, aput]
        refine AnyU.take (i := 9) (v := ?_) rfl (by kernel_rfl) (by kernel_rfl) (by kernel_rfl) (fun _ _ _ h => h) (by kernel_rfl) (by assumption) (by rfl) ?_ (fun hV => ?_)
        rotate_left 1
        · (intro wq; go_simp; try with_reducible rfl)
        clear hU; have hU := hV; clear hV
        try simp only [Act.put, aput]
        refine AnyU.take (i := 10) (v := ?_) rfl (by kernel_rfl) (by kernel_rfl) (by kernel_rfl) (fun _ _ _ h => h) (by kernel_rfl) (by assumption) (by rfl) ?_ (fun hV => ?_)
        rotate_left 1
        · (intro wq; go_simp; try with_reducible rfl)
        clear hU; have hU := hV; clear hV
        try simp only [Act.put, aput]
        refine AnyU.take (i := 11) (v := ?_) rfl (by kernel_rfl) (by kernel_rfl) (by kernel_rfl) (fun _ _ _ h => h) (by kernel_rfl) (by assumption) (by rfl) ?_ (fun hV => ?_)
        rotate_left 1
        · (intro wq; go_simp; try with_reducible rfl)
        clear hU; have hU := hV; clear hV
        try simp only [Act.put, aput]
        refine AnyU.take (i := 12) (v := ?_) rfl (by kernel_rfl) (by kernel_rfl) (by kernel_rfl) (fun _ _ _ h => h) (by kernel_rfl) (by assumption) (by rfl) ?_ (fun hV => ?_)
        rotate_left 1
        · (intro wq; go_simp; try with_reducible rfl)
        clear hU; have hU := hV; clear hV
        try simp only [Act.put, aput]
        refine AnyU.take (i := 13) (v := ?_) rfl (by kernel_rfl) (by kernel_rfl) (by kernel_rfl) (fun _ _ _ h => h) (by kernel_rfl) (by assumption) (by rfl) ?_ (fun hV => ?_)
        rotate_left 1
        · (intro wq; go_simp; try with_reducible rfl)
        clear hU; have hU := hV; clear hV
        try simp only [Act.put, aput]
        refine AnyU.loadc (i := 14) (d := 25) [17, 18, 19, 20, 25] (Si := fun w' => w'.cell? ⟨b, o + (k - 1) * 8, none⟩ = some (.string q)) (v := ?_) rfl (by kernel_rfl) (by kernel_rfl) (by kernel_rfl) (fun _ _ _ h => h) (by kernel_rfl) (by assumption) (by kernel_rfl) rfl (by simp) (by rfl) ?_ (fun hV => ?_)
        rotate_left 1
        · (intro wq hq; go_simp; try with_reducible rfl)
        clear hU; have hU := hV; clear hV
        try simp only [Act.put, aput]
        refine AnyU.take (i := 15) (v := ?_) rfl (by kernel_rfl) (by kernel_rfl) (by kernel_rfl) (fun _ _ _ h => h) (by kernel_rfl) (by assumption) (by rfl) ?_ (fun hV => ?_)
        rotate_left 1
        · (intro wq; go_simp; try with_reducible rfl)
        clear hU; have hU := hV; clear hV
        try simp only [Act.put, aput]
        refine AnyU.loadc (i := 16) (d := 25) [17, 18, 19, 20, 25] (Si := fun w' => Blk w' bd #[.string n.name, .int .i64 n.ty.kind, .string n.ty.pkg, .int .i64 n.ty.major, .string n.ty.mod, .string n.ty.name, .slice na n.ty.names.length nc, .slice sa n.ty.subs.length sc] 57) (v := ?_) rfl (by kernel_rfl) (by kernel_rfl) (by kernel_rfl) (fun _ _ _ h => h) (by kernel_rfl) (by assumption) (by kernel_rfl) rfl (by simp) (by rfl) ?_ (fun hV => ?_)
        rotate_left 1
        · (intro wq hq; obtain ⟨u0, u1, u2, u3, u4, u5, u6, u7⟩ := cells8 hq; go_simp; try with_reducible rfl)
        clear hU; have hU := hV; clear hV
        try simp only [Act.put, aput]
        refine AnyU.take (i := 17) (v := ?_) rfl (by kernel_rfl) (by kernel_rfl) (by kernel_rfl) (fun _ _ _ h => h) (by kernel_rfl) (by assumption) (by rfl) ?_ (fun hV => ?_)
        rotate_left 1
        · (intro wq; go_simp; try with_reducible rfl)
        clear hU; have hU := hV; clear hV
        try simp only [Act.put, aput]
        refine AnyU.take (i := 18) (v := ?_) rfl (by kernel_rfl) (by kernel_rfl) (by kernel_rfl) (fun _ _ _ h => h) (by kernel_rfl) (by assumption) (by rfl) ?_ (fun hV => ?_)
        rotate_left 1
        · (intro wq; go_simp; try with_reducible rfl)
        clear hU; have hU := hV; clear hV
        try simp only [Act.put, aput]
        refine AnyU.take (i := 19) (v := ?_) rfl (by kernel_rfl) (by kernel_rfl) (by kernel_rfl) (fun _ _ _ h => h) (by kernel_rfl) (by assumption) (by rfl) ?_ (fun hV => ?_)
        rotate_left 1
        · (intro wq; go_simp; try with_reducible rfl)
        clear hU; have hU := hV; clear hV
        try simp only [Act.put, aput]
        refine AnyU.take (i := 20) (v := ?_) rfl (by kernel_rfl) (by kernel_rfl) (by kernel_rfl) (fun _ _ _ h => h) (by kernel_rfl) (by assumption) (by rfl) ?_ (fun hV => ?_)
        rotate_left 1
        · (intro wq; go_simp; try with_reducible rfl)
        clear hU; have hU := hV; clear hV
        try simp only [Act.put, aput]
        refine AnyU.take (i := 21) (v := ?_) rfl (by kernel_rfl) (by kernel_rfl) (by kernel_rfl) (fun _ _ _ h => h) (by kernel_rfl) (by assumption) (by rfl) ?_ (fun hV => ?_)
        rotate_left 1
        · (intro wq; go_simp; try with_reducible rfl)
        clear hU; have hU := hV; clear hV
        try simp only [Act.put, aput]
        refine AnyU.loadc (i := 22) (d := 23) [23] (Si := fun w' => Blk w' bd #[.string n.name, .int .i64 n.ty.kind, .string n.ty.pkg, .int .i64 n.ty.major, .string n.ty.mod, .string n.ty.name, .slice na n.ty.names.length nc, .slice sa n.ty.subs.length sc] 57) (v := ?_) rfl (by kernel_rfl) (by kernel_rfl) (by kernel_rfl) (fun _ _ _ h => h) (by kernel_rfl) (by assumption) (by kernel_rfl) rfl (by simp) (by rfl) ?_ (fun hV => ?_)
        rotate_left 1
        · (intro wq hq; obtain ⟨u0, u1, u2, u3, u4, u5, u6, u7⟩ := cells8 hq; go_simp; try with_reducible rfl)
        clear hU; have hU := hV; clear hV
        try simp only [Act.put, aput]
        refine AnyU.ready1 (i := 23) (by kernel_rfl) (AnyU.one rfl fun K hK => ?_)
        go_simp
        go_at_call 56
        refine (HC2.out _ (HTY.out.under (A3.out.mono hBW)) (Nat.le_trans hBW A3.out.size)).mono ?_
        rintro e w4 ⟨rfl, hb⟩
        have A4 := Lib.hid (A3.out.trans (hb.mono A3.out.size))
        have BD4 := Lib.hid (BD3.out.under hb BD3.out.lt)
        clear hb
        refine hK.out _ _ (Until.cons (fun h => absurd h (by decide)) (Until.cons (fun h => absurd h (by decide)) (Until.cons (fun _ => BD4.out) (Until.cons (fun _ => (A4.out.cell (p := ⟨b, _, none⟩) hbW).trans HCQ.out) Until.nil)))) (fun hV => ?_)
        clear hK K
        clear hU; have hU := hV; clear hV
        try simp only [Act.put, aput]
        refine AnyU.take (i := 24) (v := ?_) rfl (by kernel_rfl) (by kernel_rfl) (by kernel_rfl) (fun _ _ _ h => h) (by kernel_rfl) (by assumption) (by rfl) ?_ (fun hV => ?_)
        rotate_left 1
        · (intro wq; go_simp; try with_reducible rfl)
        clear hU; have hU := hV; clear hV
        try simp only [Act.put, aput]
        refine AnyU.ready1 (i := 25) (by kernel_rfl) (AnyU.one rfl fun K hK => ?_)
        go_simp
        refine hK.out _ _ (Until.off (by kernel_rfl)) (fun hV => ?_)
        clear hK K
        clear hU; have hU := hV; clear hV
        try simp only [Act.put, aput]
        refine AnyU.done (by kernel_rfl) ?_
        go_wp2_with fail
        go_ret
        exact ⟨rfl, A4.out⟩
    · as_aux_lemma =>
        have hok : nmOk p l k = true := by rw [HDO.out]; simp
        have hl3 := HLT.out
        refine wp_region_until [(3, fun w' => Blk w' bd #[.string n.name, .int .i64 n.ty.kind, .string n.ty.pkg, .int .i64 n.ty.major, .string n.ty.mod, .string n.ty.name, .slice na n.ty.names.length nc, .slice sa n.ty.subs.length sc] 57), (23, fun w' => Blk w' bd #[.string n.name, .int .i64 n.ty.kind, .string n.ty.pkg, .int .i64 n.ty.major, .string n.ty.mod, .string n.ty.name, .slice na n.ty.names.length nc, .slice sa n.ty.subs.length sc] 57), (25, fun w' => Blk w' bd #[.string n.name, .int .i64 n.ty.kind, .string n.ty.pkg, .int .i64 n.ty.major, .string n.ty.mod, .string n.ty.name, .slice na n.ty.names.length nc, .slice sa n.ty.subs.length sc] 57), (25, fun w' => w'.cell? ⟨b, o + (k - 1) * 8, none⟩ = some (.string q))] (by kernel_rfl) (Until.cons (fun _ => BD.out.drew) (Until.cons (fun _ => BD.out.drew) (Until.cons (fun _ => BD.out.drew) (Until.cons (fun _ => ((A2.out.cell (p := ⟨b, _, none⟩) hbW).trans HCQ.out)) Until.nil)))) (fun hU => ?_)
        have A2d := Lib.hid A2.out.drew
        clear A2
        have A2 := A2d
        clear A2d
        have BD2 := Lib.hid BD.out.drew
        refine AnyU.take (i := 0) (v := ?_) rfl (by kernel_rfl) (by kernel_rfl) (by kernel_rfl) (fun _ _ _ h => h) (by kernel_rfl) (by assumption) (by rfl) ?_ (fun hV => ?_)
        rotate_left 1
        · (intro wq; go_simp; try with_reducible rfl)
        clear hU; have hU := hV; clear hV
        try simp only [Act.put, aput]
        refine AnyU.take (i := 1) (v := ?_) rfl (by kernel_rfl) (by kernel_rfl) (by kernel_rfl) (fun _ _ _ h => h) (by kernel_rfl) (by assumption) (by rfl) ?_ (fun hV => ?_)
        rotate_left 1
        · (intro wq; go_simp; try with_reducible rfl)
        clear hU; have hU := hV; clear hV
        try simp only [Act.put, aput]
        refine AnyU.loadc (i := 2) (d := 3) [3] (Si := fun w' => Blk w' bd #[.string n.name, .int .i64 n.ty.kind, .string n.ty.pkg, .int .i64 n.ty.major, .string n.ty.mod, .string n.ty.name, .slice na n.ty.names.length nc, .slice sa n.ty.subs.length sc] 57) (v := ?_) rfl (by kernel_rfl) (by kernel_rfl) (by kernel_rfl) (fun _ _ _ h => h) (by kernel_rfl) (by assumption) (by kernel_rfl) rfl (by simp) (by rfl) ?_ (fun hV => ?_)
        rotate_left 1
        · (intro wq hq; obtain ⟨u0, u1, u2, u3, u4, u5, u6, u7⟩ := cells8 hq; go_simp; try with_reducible rfl)
        clear hU; have hU := hV; clear hV
        try simp only [Act.put, aput]
        refine AnyU.ready1 (i := 3) (by kernel_rfl) (AnyU.one rfl fun K hK => ?_)
        go_simp
        refine (HC1.out _).mono ?_
        rintro e w3 ⟨rfl, hb⟩
        have A3 := Lib.hid (A2.out.trans (hb.mono A2.out.size))
        have BD3 := Lib.hid (BD2.out.under hb BD2.out.lt)
        clear hb
        refine hK.out _ _ (Until.cons (fun h => absurd h (by decide)) (Until.cons (fun _ => BD3.out) (Until.cons (fun _ => BD3.out) (Until.cons (fun _ => (A3.out.cell (p := ⟨b, _, none⟩) hbW).trans HCQ.out) Until.nil)))) (fun hV => ?_)
        clear hK K
        clear hU; have hU := hV; clear hV
        try simp only [Act.put, aput]
        refine AnyU.take (i := 4) (v := ?_) rfl (by kernel_rfl) (by kernel_rfl) (by kernel_rfl) (fun _ _ _ h => h) (by kernel_rfl) (by assumption) (by rfl) ?_ (fun hV => ?_)
        rotate_left 1
        · (intro wq; go_simp; try with_reducible rfl)
        clear hU; have hU := hV; clear hV
        try simp only [Act.put, aput]
        refine AnyU.take (i := 5) (v := ?_) rfl (by kernel_rfl) (by kernel_rfl) (by kernel_rfl) (fun _ _ _ h => h) (by kernel_rfl) (by assumption) (by rfl) ?_ (fun hV => ?_)
        rotate_left 1
        · (intro wq; go_simp; try with_reducible rfl)
        clear hU; have hU := hV; clear hV
        try simp only [Act.put, aput]
        refine AnyU.take (i := 6) (v := ?_) rfl (by kernel_rfl) (by kernel_rfl) (by kernel_rfl) (fun _ _ _ h => h) (by kernel_rfl) (by assumption) (by rfl) ?_ (fun hV => ?_)
        rotate_left 1
        · (intro wq; go_simp; try with_reducible rfl)
        clear hU; have hU := hV; clear hV
        try simp only [Act.put, aput]
        refine AnyU.take (i := 7) (v := ?_) rfl (by kernel_rfl) (by kernel_rfl) (by kernel_rfl) (fun _ _ _ h => h) (by kernel_rfl) (by assumption) (by rfl) ?_ (fun hV => ?_)
        rotate_left 1
        · (intro wq; go_simp; try with_reducible rfl)
        clear hU; have hU := hV; clear hV
        try simp only [Act.put, aput]
        refine AnyU.take (i := 8) (v := ?_) rfl (by kernel_rfl) (by kernel_rfl) (by kernel_rfl) (fun _ _ _ h => h) (by kernel_rfl) (by assumption) (by rfl) ?_ (fun hV => ?_)
        rotate_left 1
        · (intro wq; go_simp; try with_reducible rfl)
        clear hU; have hU := hV; clear hV
        try simp only [Act.put, aput]
        refine AnyU.take (i := 9) (v := ?_) rfl (by kernel_rfl) (by kernel_rfl) (by kernel_rfl) (fun _ _ _ h => h) (by kernel_rfl) (by assumption) (by rfl) ?_ (fun hV => ?_)
        rotate_left 1
        · (intro wq; go_simp; try with_reducible rfl)
        clear hU; have hU := hV; clear hV
        try simp only [Act.put, aput]
        refine AnyU.take (i := 10) (v := ?_) rfl (by kernel_rfl) (by kernel_rfl) (by kernel_rfl) (fun _ _ _ h => h) (by kernel_rfl) (by assumption) (by rfl) ?_ (fun hV => ?_)
        rotate_left 1
        · (intro wq; go_simp; try with_reducible rfl)
        clear hU; have hU := hV; clear hV
        try simp only [Act.put, aput]
        refine AnyU.take (i := 11) (v := ?_) rfl (by kernel_rfl) (by kernel_rfl) (by kernel_rfl) (fun _ _ _ h => h) (by kernel_rfl) (by assumption) (by rfl) ?_ (fun hV => ?_)
        rotate_left 1
        · (intro wq; go_simp; try with_reducible rfl)
        clear hU; have hU := hV; clear hV
        try simp only [Act.put, aput]
        refine AnyU.take (i := 12) (v := ?_) rfl (by kernel_rfl) (by kernel_rfl) (by kernel_rfl) (fun _ _ _ h => h) (by kernel_rfl) (by assumption) (by rfl) ?_ (fun hV => ?_)
        rotate_left 1
        · (intro wq; go_simp; try with_reducible rfl)
        clear hU; have hU := hV; clear hV
        try simp only [Act.put, aput]
        refine AnyU.take (i := 13) (v := ?_) rfl (by kernel_rfl) (by kernel_rfl) (by kernel_rfl) (fun _ _ _ h => h) (by kernel_rfl) (by assumption) (by rfl) ?_ (fun hV => ?_)
        rotate_left 1
        · (intro wq; go_simp; try with_reducible rfl)
        clear hU; have hU := hV; clear hV
        try simp only [Act.put, aput]
        refine AnyU.loadc (i := 14) (d := 25) [17, 18, 19, 20, 25] (Si := fun w' => w'.cell? ⟨b, o + (k - 1) * 8, none⟩ = some (.string q)) (v := ?_) rfl (by kernel_rfl) (by kernel_rfl) (by kernel_rfl) (fun _ _ _ h => h) (by kernel_rfl) (by assumption) (by kernel_rfl) rfl (by simp) (by rfl) ?_ (fun hV => ?_)
        rotate_left 1
        · (intro wq hq; go_simp; try with_reducible rfl)
        clear hU; have hU := hV; clear hV
        try simp only [Act.put, aput]
        refine AnyU.take (i := 15) (v := ?_) rfl (by kernel_rfl) (by kernel_rfl) (by kernel_rfl) (fun _ _ _ h => h) (by kernel_rfl) (by assumption) (by rfl) ?_ (fun hV => ?_)
        rotate_left 1
        · (intro wq; go_simp; try with_reducible rfl)
        clear hU; have hU := hV; clear hV
        try simp only [Act.put, aput]
        refine AnyU.loadc (i := 16) (d := 25) [17, 18, 19, 20, 25] (Si := fun w' => Blk w' bd #[.string n.name, .int .i64 n.ty.kind, .string n.ty.pkg, .int .i64 n.ty.major, .string n.ty.mod, .string n.ty.name, .slice na n.ty.names.length nc, .slice sa n.ty.subs.length sc] 57) (v := ?_) rfl (by kernel_rfl) (by kernel_rfl) (by kernel_rfl) (fun _ _ _ h => h) (by kernel_rfl) (by assumption) (by kernel_rfl) rfl (by simp) (by rfl) ?_ (fun hV => ?_)
        rotate_left 1
        · (intro wq hq; obtain ⟨u0, u1, u2, u3, u4, u5, u6, u7⟩ := cells8 hq; go_simp; try with_reducible rfl)
        clear hU; have hU := hV; clear hV
        try simp only [Act.put, aput]
        refine AnyU.take (i := 17) (v := ?_) rfl (by kernel_rfl) (by kernel_rfl) (by kernel_rfl) (fun _ _ _ h => h) (by kernel_rfl) (by assumption) (by rfl) ?_ (fun hV => ?_)
        rotate_left 1
        · (intro wq; go_simp; try with_reducible rfl)
        clear hU; have hU := hV; clear hV
        try simp only [Act.put, aput]
        refine AnyU.take (i := 18) (v := ?_) rfl (by kernel_rfl) (by kernel_rfl) (by kernel_rfl) (fun _ _ _ h => h) (by kernel_rfl) (by assumption) (by rfl) ?_ (fun hV => ?_)
        rotate_left 1
        · (intro wq; go_simp; try with_reducible rfl)
        clear hU; have hU := hV; clear hV
        try simp only [Act.put, aput]
        refine AnyU.take (i := 19) (v := ?_) rfl (by kernel_rfl) (by kernel_rfl) (by kernel_rfl) (fun _ _ _ h => h) (by kernel_rfl) (by assumption) (by rfl) ?_ (fun hV => ?_)
        rotate_left 1
        · (intro wq; go_simp; try with_reducible rfl)
        clear hU; have hU := hV; clear hV
        try simp only [Act.put, aput]
        refine AnyU.take (i := 20) (v := ?_) rfl (by kernel_rfl) (by kernel_rfl) (by kernel_rfl) (fun _ _ _ h => h) (by kernel_rfl) (by assumption) (by rfl) ?_ (fun hV => ?_)
        rotate_left 1
        · (intro wq; go_simp; try with_reducible rfl)
        clear hU; have hU := hV; clear hV
        try simp only [Act.put, aput]
        refine AnyU.take (i := 21) (v := ?_) rfl (by kernel_rfl) (by kernel_rfl) (by kernel_rfl) (fun _ _ _ h => h) (by kernel_rfl) (by assumption) (by rfl) ?_ (fun hV => ?_)
        rotate_left 1
        · (intro wq; go_simp; try with_reducible rfl)
        clear hU; have hU := hV; clear hV
        try simp only [Act.put, aput]
        refine AnyU.loadc (i := 22) (d := 23) [23] (Si := fun w' => Blk w' bd #[.string n.name, .int .i64 n.ty.kind, .string n.ty.pkg, .int .i64 n.ty.major, .string n.ty.mod, .string n.ty.name, .slice na n.ty.names.length nc, .slice sa n.ty.subs.length sc] 57) (v := ?_) rfl (by kernel_rfl) (by kernel_rfl) (by kernel_rfl) (fun _ _ _ h => h) (by kernel_rfl) (by assumption) (by kernel_rfl) rfl (by simp) (by rfl) ?_ (fun hV => ?_)
        rotate_left 1
        · (intro wq hq; obtain ⟨u0, u1, u2, u3, u4, u5, u6, u7⟩ := cells8 hq; go_simp; try with_reducible rfl)
        clear hU; have hU := hV; clear hV
        try simp only [Act.put, aput]
        refine AnyU.ready1 (i := 23) (by kernel_rfl) (AnyU.one rfl fun K hK => ?_)
        go_simp
        go_at_call 56
        refine (HC2.out _ (HTY.out.under (A3.out.mono hBW)) (Nat.le_trans hBW A3.out.size)).mono ?_
        rintro e w4 ⟨rfl, hb⟩
        have A4 := Lib.hid (A3.out.trans (hb.mono A3.out.size))
        have BD4 := Lib.hid (BD3.out.under hb BD3.out.lt)
        clear hb
        refine hK.out _ _ (Until.cons (fun h => absurd h (by decide)) (Until.cons (fun h => absurd h (by decide)) (Until.cons (fun _ => BD4.out) (Until.cons (fun _ => (A4.out.cell (p := ⟨b, _, none⟩) hbW).trans HCQ.out) Until.nil)))) (fun hV => ?_)
        clear hK K
        clear hU; have hU := hV; clear hV
        try simp only [Act.put, aput]
        refine AnyU.take (i := 24) (v := ?_) rfl (by kernel_rfl) (by kernel_rfl) (by kernel_rfl) (fun _ _ _ h => h) (by kernel_rfl) (by assumption) (by rfl) ?_ (fun hV => ?_)
        rotate_left 1
        · (intro wq; go_simp; try with_reducible rfl)
        clear hU; have hU := hV; clear hV
        try simp only [Act.put, aput]
        refine AnyU.ready1 (i := 25) (by kernel_rfl) (AnyU.one rfl fun K hK => ?_)
        go_simp
        refine hK.out _ _ (Until.off (by kernel_rfl)) (fun hV => ?_)
        clear hK K
        clear hU; have hU := hV; clear hV
        try simp only [Act.put, aput]
        refine AnyU.done (by kernel_rfl) ?_
        go_wp2_with fail
        exact ⟨⟨k + 1, by go_num, by omega, A4.out, fun i hi => by
          by_cases e : i = k
          · subst e; exact hok
          · exact HA.out i (by omega)⟩, by simp [intOf]; omega⟩
set_option maxRecDepth 100000 in
theorem namedGreat_c (l : List Nm) (A : Option Addr) (cap B : Nat) (w : World) (h : NmsAt w B A l) (hB : B ≤ w.heap.size) (hl : l.length ≤ maxLen) :
    Calls Tryz.prog 29 #[.slice A l.length cap, .func (.func 30) #[] #[]] w fun e w' => e = .returned (.bool (namedB greatB l)) ∧ Below w.heap.size w w' :=
  namedFn_c 30 greatB (by intro a w; rfl) (fun s w hs => great_b s w hs) l A cap B w h hB hl
set_option maxRecDepth 100000 in
theorem namedSmall_c (l : List Nm) (A : Option Addr) (cap B : Nat) (w : World) (h : NmsAt w B A l) (hB : B ≤ w.heap.size) (hl : l.length ≤ maxLen) :
    Calls Tryz.prog 29 #[.slice A l.length cap, .func (.func 23) #[] #[]] w fun e w' => e = .returned (.bool (namedB smallB l)) ∧ Below w.heap.size w w' :=
  namedFn_c 23 smallB (by intro a w; rfl) (fun s w hs => Small_c s w hs) l A cap B w h hB hl
end Go.Proofs.YtjeldfipipkfiaaGreat
