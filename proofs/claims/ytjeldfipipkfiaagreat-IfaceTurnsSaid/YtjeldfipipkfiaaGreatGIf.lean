/- When interfaces are alike, in plain words. Plain Lean; no condition. -/
import Derived.Test.YtjeldfipipkfiaaGreatGScope
import Derived.Test.YtjeldfipipkfiaaGreatGModS
import Derived.Test.YtjeldfipipkfiaaGreatFewC
import Derived.Test.YtjeldfipipkfiaaGreatGReg
import Derived.Deep.DeepCutAuto
import Derived.Deep.Cut
import Derived.Test.YtjeldfipipkfiaaGreatGMem
import Derived.Deep.QuietTactic
import Derived.Deep.Draws
namespace Go.Proofs.YtjeldfipipkfiaaGreat
open Go.RowKit
set_option linter.unusedSimpArgs false
set_option linter.unusedVariables false
def sameN : List Nm → List Nm → Bool
  | [], [] => true
  | x :: l, y :: m => (x.name.toList == y.name.toList) && (alikeT x.ty y.ty && sameN l m)
  | _, _ => false
theorem sameN_iff : ∀ l m : List Nm, sameN l m = true ↔ l = m
  | [], [] => by simp [sameN]
  | [], y :: m => by simp [sameN]
  | x :: l, [] => by simp [sameN]
  | x :: l, y :: m => by
    rw [sameN, Bool.and_eq_true, Bool.and_eq_true, sameN_iff l m, alike_iff, ba_eq, decide_eq_true_eq]
    constructor
    · rintro ⟨h1, h2, rfl⟩
      cases x; cases y; simp_all
    · intro h
      injection h with h1 h2
      subst h1 h2
      exact ⟨rfl, rfl, rfl⟩
theorem sameN_len {l m : List Nm} (h : l.length ≠ m.length) : sameN l m = false := by
  rw [← Bool.not_eq_true, sameN_iff]
  rintro rfl
  exact h rfl
theorem sameN_drop {l m : List Nm} {k : Nat} (h1 : k < l.length) (h2 : k < m.length) : sameN (l.drop k) (m.drop k) = ((l[k].name.toList == m[k].name.toList) && (alikeT l[k].ty m[k].ty && sameN (l.drop (k + 1)) (m.drop (k + 1)))) := by
  rw [List.drop_eq_getElem_cons h1, List.drop_eq_getElem_cons h2, sameN]
def sameI (x y : If) : Bool := (x.pkg.toList == y.pkg.toList) && ((x.major == y.major) && ((x.mod.toList == y.mod.toList) && (sameN x.types y.types && sameN x.vals y.vals)))
theorem sameI_refl (x : If) : sameI x x = true := by
  rw [sameI, (sameN_iff _ _).2 rfl, (sameN_iff _ _).2 rfl]
  simp
end Go.Proofs.YtjeldfipipkfiaaGreat
namespace Go.Proofs.YtjeldfipipkfiaaGreat
open Go.RowKit
set_option linter.unusedSimpArgs false
set_option linter.unusedVariables false
theorem Until.off {cs : List (Nat × (World → Prop))} {l : Array Bool} {w : World} (h : (cs.all fun x => l.getD x.1 true) = true) : Until cs l w := fun x hx hl => by
  have := List.all_eq_true.1 h x hx
  rw [hl] at this
  cases this
theorem cells8 {w : World} {g : Nat} {T : TypeId} {x0 x1 x2 x3 x4 x5 x6 x7 : Value} (h : Blk w g #[x0, x1, x2, x3, x4, x5, x6, x7] T) :
    w.cell? ⟨g, 0, none⟩ = some x0 ∧ w.cell? ⟨g, 1, none⟩ = some x1 ∧ w.cell? ⟨g, 2, none⟩ = some x2 ∧ w.cell? ⟨g, 3, none⟩ = some x3 ∧ w.cell? ⟨g, 4, none⟩ = some x4 ∧ w.cell? ⟨g, 5, none⟩ = some x5 ∧ w.cell? ⟨g, 6, none⟩ = some x6 ∧ w.cell? ⟨g, 7, none⟩ = some x7 :=
  ⟨h.cell 0, h.cell 1, h.cell 2, h.cell 3, h.cell 4, h.cell 5, h.cell 6, h.cell 7⟩
def nmOk (p : ByteArray → Bool) (l : List Nm) (i : Nat) : Bool := if h : i < l.length then p l[i].name && ((decide (i = 0) || ltB (l[i - 1]'(by omega)).name l[i].name) && PlainB l[i].ty) else true
def namedB (p : ByteArray → Bool) (l : List Nm) : Bool := (List.range l.length).all (nmOk p l)
theorem named_bad {p : ByteArray → Bool} {l : List Nm} {k : Nat} (hk : k < l.length) (h : nmOk p l k = false) : namedB p l = false := by
  rw [namedB, List.all_eq_false]
  exact ⟨k, List.mem_range.2 hk, by simp [h]⟩
theorem named_all {p : ByteArray → Bool} {l : List Nm} (h : ∀ i, i < l.length → nmOk p l i = true) : namedB p l = true := by
  rw [namedB, List.all_eq_true]
  intro i hi
  exact h i (List.mem_range.1 hi)
set_option maxRecDepth 100000 in
set_option maxHeartbeats 40000000 in
theorem namedFn_c (fn : Nat) (p : ByteArray → Bool) (hfn : ∀ (a : Array Value) (w : World), (callFunc fn a).run Tryz.prog w = .ok (.enter fn a) w)
    (hp : ∀ (s : ByteArray) (w : World), s.size ≤ maxLen → Calls Tryz.prog fn #[.string s] w fun e w' => e = .returned (.bool (p s)) ∧ Below w.heap.size w w') (l : List Nm) (A : Option Addr) (cap B : Nat) (w : World) (h : NmsAt w B A l) (hB : B ≤ w.heap.size) (hl : l.length ≤ maxLen) :
    Calls Tryz.prog 29 #[.slice A l.length cap, .func (.func fn) #[] #[]] w fun e w' => e = .returned (.bool (namedB p l)) ∧ Below w.heap.size w w' := by
  have HP := Lib.hid hp
  clear hp
  obtain ⟨R, hR⟩ : ∃ R, namedB p l = R := ⟨_, rfl⟩
  rw [hR]
  have HR := Lib.hid hR
  have H := Lib.hid h
  unfold maxLen at hl
  clear hR h
  go_enter Tryz.func29, Tryz.ntmps29
  go_wp2_with fail
  go_loopw [9] (fun iv wr => ∃ k : Nat, iv = .int .i64 k ∧ k ≤ l.length ∧ Below w.heap.size w wr ∧ ∀ i, i < k → nmOk p l i = true) (fun iv _ => l.length - (intOf iv).toNat)
  case atStart => exact ⟨0, rfl, Nat.zero_le _, Below.refl _ _, fun i hi => absurd hi (by omega)⟩
  case round =>
    obtain ⟨k, rfl, hk, hb1, hall⟩ := hrel
    have A1 := Lib.hid hb1
    have HA := Lib.hid hall
    have hBr : B ≤ wr.heap.size := Nat.le_trans hB hb1.size
    clear hb1 hall
    by_cases hlt : k < l.length
    rotate_left
    · obtain rfl : k = l.length := by omega
      have hltI : ¬ (l.length : Int) < (l.length : Int) := by omega
      go_wp2_with fail
      go_ret
      exact ⟨ret_b (by rw [← HR.out, named_all HA.out]), A1.out⟩
    have hltI : (k : Int) < (l.length : Int) := by omega
    obtain ⟨n, hn⟩ : ∃ n, l[k] = n := ⟨_, rfl⟩
    obtain ⟨hns, b, o, na, nc, sa, sc, rfl, hbB, hty, c0, c1, c2, c3, c4, c5, c6, c7⟩ := H.out.elem hlt hn
    have hbW : b < w.heap.size := by omega
    have hBW : B ≤ w.heap.size := hB
    have hbR : b < wr.heap.size := Nat.lt_of_lt_of_le hbW A1.out.size
    have HTY := Lib.hid hty
    simp only [tyCells] at HTY
    rw [← A1.out.cell (p := ⟨b, _, none⟩) hbW] at c0 c1 c2 c3 c4 c5 c6 c7
    have HC1 := Lib.hid (fun w => HP.out n.name w hns)
    have hC2 := fun w' ht hB' => Plain_c n.ty (tyCells n.ty na nc sa sc) B w' ht hB'
    obtain ⟨s, hsm⟩ : ∃ s, p n.name = s := ⟨_, rfl⟩
    obtain ⟨pl, hpl⟩ : ∃ s, PlainB n.ty = s := ⟨_, rfl⟩
    have hdO : nmOk p l k = (s && ((decide (k = 0) || ltB (l[k - 1]'(by omega)).name n.name) && pl)) := by
      rw [nmOk, dif_pos hlt]
      simp only [hn, hsm, hpl]
    have HDO := Lib.hid hdO
    rw [hsm] at HC1
    simp only [tyCells, hpl] at hC2
    have HC2 := Lib.hid hC2
    have HN := Lib.hid hn
    clear hsm hpl hdO hC2 hty hn
    go_upto_region 4 with fail
    have BD := Lib.hid (Blk.new wr #[.string n.name, .int .i64 n.ty.kind, .string n.ty.pkg, .int .i64 n.ty.major, .string n.ty.mod, .string n.ty.name, .slice na n.ty.names.length nc, .slice sa n.ty.subs.length sc] 57)
    have A2 := Lib.hid (A1.out.alloc A1.out.size (.cells #[.string n.name, .int .i64 n.ty.kind, .string n.ty.pkg, .int .i64 n.ty.major, .string n.ty.mod, .string n.ty.name, .slice na n.ty.names.length nc, .slice sa n.ty.subs.length sc] 57))
    generalize hw : (wr.alloc (.cells #[.string n.name, .int .i64 n.ty.kind, .string n.ty.pkg, .int .i64 n.ty.major, .string n.ty.mod, .string n.ty.name, .slice na n.ty.names.length nc, .slice sa n.ty.subs.length sc] 57)) = wd at A2 BD ⊢
    clear hw c0 c1 c2 c3 c4 c5 c6 c7 hbR
    generalize wr.heap.size = bd at BD ⊢
    cases s
    · as_aux_lemma =>
        have hbad := named_bad hlt (by rw [HDO.out]; rfl)
        rw [HR.out] at hbad
        subst hbad
        refine wp_region_until [(3, fun w' => Blk w' bd #[.string n.name, .int .i64 n.ty.kind, .string n.ty.pkg, .int .i64 n.ty.major, .string n.ty.mod, .string n.ty.name, .slice na n.ty.names.length nc, .slice sa n.ty.subs.length sc] 57)] (by kernel_rfl) (Until.cons (fun _ => BD.out.drew) Until.nil) (fun hU => ?_)
        have A2d := Lib.hid A2.out.drew
        clear A2
        have A2 := A2d
        clear A2d
        have BD2 := Lib.hid BD.out.drew
        refine AnyU.take (i := 0) (v := ?_) rfl (by kernel_rfl) (by kernel_rfl) (by kernel_rfl) (fun _ _ _ h => h) (by kernel_rfl) (by assumption) (by rfl) ?_ (fun hV => ?_)
        rotate_left 1
        · (intro wq; go_simp; try with_reducible rfl)
        clear hU; have hU := hV; clear hV
        try simp only [Act.put, aput]
        refine AnyU.take (i := 1) (v := ?_) rfl (by kernel_rfl) (by kernel_rfl) (by kernel_rfl) (fun _ _ _ h => h) (by kernel_rfl) (by assumption) (by rfl) ?_ (fun hV => ?_)
        rotate_left 1
        · (intro wq; go_simp; try with_reducible rfl)
        clear hU; have hU := hV; clear hV
        try simp only [Act.put, aput]
        refine AnyU.loadc (i := 2) (d := 3) [3] (Si := fun w' => Blk w' bd #[.string n.name, .int .i64 n.ty.kind, .string n.ty.pkg, .int .i64 n.ty.major, .string n.ty.mod, .string n.ty.name, .slice na n.ty.names.length nc, .slice sa n.ty.subs.length sc] 57) (v := ?_) rfl (by kernel_rfl) (by kernel_rfl) (by kernel_rfl) (fun _ _ _ h => h) (by kernel_rfl) (by assumption) (by kernel_rfl) rfl (by simp) (by rfl) ?_ (fun hV => ?_)
        rotate_left 1
        · (intro wq hq; obtain ⟨u0, u1, u2, u3, u4, u5, u6, u7⟩ := cells8 hq; go_simp; try with_reducible rfl)
        clear hU; have hU := hV; clear hV
        try simp only [Act.put, aput]
        refine AnyU.ready1 (i := 3) (by kernel_rfl) (AnyU.one rfl fun K hK => ?_)
        go_simp
        refine (HC1.out _).mono ?_
        rintro e w3 ⟨rfl, hb⟩
        have A3 := Lib.hid (A2.out.trans (hb.mono A2.out.size))
        have BD3 := Lib.hid (BD2.out.under hb BD2.out.lt)
        clear hb
        refine hK.out _ _ (Until.cons (fun h => absurd h (by decide)) Until.nil) (fun hV => ?_)
        clear hK K
        clear hU; have hU := hV; clear hV
        try simp only [Act.put, aput]
        refine AnyU.take (i := 4) (v := ?_) rfl (by kernel_rfl) (by kernel_rfl) (by kernel_rfl) (fun _ _ _ h => h) (by kernel_rfl) (by assumption) (by rfl) ?_ (fun hV => ?_)
        rotate_left 1
        · (intro wq; go_simp; try with_reducible rfl)
        clear hU; have hU := hV; clear hV
        try simp only [Act.put, aput]
        refine AnyU.take (i := 5) (v := ?_) rfl (by kernel_rfl) (by kernel_rfl) (by kernel_rfl) (fun _ _ _ h => h) (by kernel_rfl) (by assumption) (by rfl) ?_ (fun hV => ?_)
        rotate_left 1
        · (intro wq; go_simp; try with_reducible rfl)
        clear hU; have hU := hV; clear hV
        try simp only [Act.put, aput]
        refine AnyU.skip (i := 6) rfl (by kernel_rfl) (by kernel_rfl) (by kernel_rfl) (fun _ _ _ h => h) (by kernel_rfl) (by assumption) (by rfl) (fun hV => ?_)
        clear hU; have hU := hV; clear hV
        try simp only [Act.put, aput]
        refine AnyU.skip (i := 7) rfl (by kernel_rfl) (by kernel_rfl) (by kernel_rfl) (fun _ _ _ h => h) (by kernel_rfl) (by assumption) (by rfl) (fun hV => ?_)
        clear hU; have hU := hV; clear hV
        try simp only [Act.put, aput]
        refine AnyU.skip (i := 8) rfl (by kernel_rfl) (by kernel_rfl) (by kernel_rfl) (fun _ _ _ h => h) (by kernel_rfl) (by assumption) (by rfl) (fun hV => ?_)
        clear hU; have hU := hV; clear hV
        try simp only [Act.put, aput]
        refine AnyU.skip (i := 9) rfl (by kernel_rfl) (by kernel_rfl) (by kernel_rfl) (fun _ _ _ h => h) (by kernel_rfl) (by assumption) (by rfl) (fun hV => ?_)
        clear hU; have hU := hV; clear hV
        try simp only [Act.put, aput]
        refine AnyU.skip (i := 10) rfl (by kernel_rfl) (by kernel_rfl) (by kernel_rfl) (fun _ _ _ h => h) (by kernel_rfl) (by assumption) (by rfl) (fun hV => ?_)
        clear hU; have hU := hV; clear hV
        try simp only [Act.put, aput]
        refine AnyU.skip (i := 11) rfl (by kernel_rfl) (by kernel_rfl) (by kernel_rfl) (fun _ _ _ h => h) (by kernel_rfl) (by assumption) (by rfl) (fun hV => ?_)
        clear hU; have hU := hV; clear hV
        try simp only [Act.put, aput]
        refine AnyU.skip (i := 12) rfl (by kernel_rfl) (by kernel_rfl) (by kernel_rfl) (fun _ _ _ h => h) (by kernel_rfl) (by assumption) (by rfl) (fun hV => ?_)
        clear hU; have hU := hV; clear hV
        try simp only [Act.put, aput]
        refine AnyU.skip (i := 13) rfl (by kernel_rfl) (by kernel_rfl) (by kernel_rfl) (fun _ _ _ h => h) (by kernel_rfl) (by assumption) (by rfl) (fun hV => ?_)
        clear hU; have hU := hV; clear hV
        try simp only [Act.put, aput]
        refine AnyU.skip (i := 14) rfl (by kernel_rfl) (by kernel_rfl) (by kernel_rfl) (fun _ _ _ h => h) (by kernel_rfl) (by assumption) (by rfl) (fun hV => ?_)
        clear hU; have hU := hV; clear hV
        try simp only [Act.put, aput]
        refine AnyU.skip (i := 15) rfl (by kernel_rfl) (by kernel_rfl) (by kernel_rfl) (fun _ _ _ h => h) (by kernel_rfl) (by assumption) (by rfl) (fun hV => ?_)
        clear hU; have hU := hV; clear hV
        try simp only [Act.put, aput]
        refine AnyU.skip (i := 16) rfl (by kernel_rfl) (by kernel_rfl) (by kernel_rfl) (fun _ _ _ h => h) (by kernel_rfl) (by assumption) (by rfl) (fun hV => ?_)
        clear hU; have hU := hV; clear hV
        try simp only [Act.put, aput]
        refine AnyU.skip (i := 17) rfl (by kernel_rfl) (by kernel_rfl) (by kernel_rfl) (fun _ _ _ h => h) (by kernel_rfl) (by assumption) (by rfl) (fun hV => ?_)
        clear hU; have hU := hV; clear hV
        try simp only [Act.put, aput]
        refine AnyU.skip (i := 18) rfl (by kernel_rfl) (by kernel_rfl) (by kernel_rfl) (fun _ _ _ h => h) (by kernel_rfl) (by assumption) (by rfl) (fun hV => ?_)
        clear hU; have hU := hV; clear hV
        try simp only [Act.put, aput]
        refine AnyU.take (i := 19) (v := ?_) rfl (by kernel_rfl) (by kernel_rfl) (by kernel_rfl) (fun _ _ _ h => h) (by kernel_rfl) (by assumption) (by rfl) ?_ (fun hV => ?_)
        rotate_left 1
        · (intro wq; go_simp; try with_reducible rfl)
        clear hU; have hU := hV; clear hV
        try simp only [Act.put, aput]
        refine AnyU.take (i := 20) (v := ?_) rfl (by kernel_rfl) (by kernel_rfl) (by kernel_rfl) (fun _ _ _ h => h) (by kernel_rfl) (by assumption) (by rfl) ?_ (fun hV => ?_)
        rotate_left 1
        · (intro wq; go_simp; try with_reducible rfl)
        clear hU; have hU := hV; clear hV
        try simp only [Act.put, aput]
        refine AnyU.skip (i := 21) rfl (by kernel_rfl) (by kernel_rfl) (by kernel_rfl) (fun _ _ _ h => h) (by kernel_rfl) (by assumption) (by rfl) (fun hV => ?_)
        clear hU; have hU := hV; clear hV
        try simp only [Act.put, aput]
        refine AnyU.skip (i := 22) rfl (by kernel_rfl) (by kernel_rfl) (by kernel_rfl) (fun _ _ _ h => h) (by kernel_rfl) (by assumption) (by rfl) (fun hV => ?_)
        clear hU; have hU := hV; clear hV
        try simp only [Act.put, aput]
        refine AnyU.skip (i := 23) rfl (by kernel_rfl) (by kernel_rfl) (by kernel_rfl) (fun _ _ _ h => h) (by kernel_rfl) (by assumption) (by rfl) (fun hV => ?_)
        clear hU; have hU := hV; clear hV
        try simp only [Act.put, aput]
        refine AnyU.skip (i := 24) rfl (by kernel_rfl) (by kernel_rfl) (by kernel_rfl) (fun _ _ _ h => h) (by kernel_rfl) (by assumption) (by rfl) (fun hV => ?_)
        clear hU; have hU := hV; clear hV
        try simp only [Act.put, aput]
        refine AnyU.ready1 (i := 25) (by kernel_rfl) (AnyU.one rfl fun K hK => ?_)
        go_simp
        refine hK.out _ _ (Until.off (by kernel_rfl)) (fun hV => ?_)
        clear hK K
        clear hU; have hU := hV; clear hV
        try simp only [Act.put, aput]
        refine AnyU.done (by kernel_rfl) ?_
        go_wp2_with fail
        go_ret
        exact ⟨rfl, A3.out⟩
    by_cases h0 : k = 0
    · subst h0
      cases pl
      · as_aux_lemma =>
          have hbad := named_bad hlt (by rw [HDO.out]; rfl)
          rw [HR.out] at hbad
          subst hbad
          refine wp_region_until [(3, fun w' => Blk w' bd #[.string n.name, .int .i64 n.ty.kind, .string n.ty.pkg, .int .i64 n.ty.major, .string n.ty.mod, .string n.ty.name, .slice na n.ty.names.length nc, .slice sa n.ty.subs.length sc] 57), (23, fun w' => Blk w' bd #[.string n.name, .int .i64 n.ty.kind, .string n.ty.pkg, .int .i64 n.ty.major, .string n.ty.mod, .string n.ty.name, .slice na n.ty.names.length nc, .slice sa n.ty.subs.length sc] 57)] (by kernel_rfl) (Until.cons (fun _ => BD.out.drew) (Until.cons (fun _ => BD.out.drew) Until.nil)) (fun hU => ?_)
          have A2d := Lib.hid A2.out.drew
          clear A2
          have A2 := A2d
          clear A2d
          have BD2 := Lib.hid BD.out.drew
          refine AnyU.take (i := 0) (v := ?_) rfl (by kernel_rfl) (by kernel_rfl) (by kernel_rfl) (fun _ _ _ h => h) (by kernel_rfl) (by assumption) (by rfl) ?_ (fun hV => ?_)
          rotate_left 1
          · (intro wq; go_simp; try with_reducible rfl)
          clear hU; have hU := hV; clear hV
          try simp only [Act.put, aput]
          refine AnyU.take (i := 1) (v := ?_) rfl (by kernel_rfl) (by kernel_rfl) (by kernel_rfl) (fun _ _ _ h => h) (by kernel_rfl) (by assumption) (by rfl) ?_ (fun hV => ?_)
          rotate_left 1
          · (intro wq; go_simp; try with_reducible rfl)
          clear hU; have hU := hV; clear hV
          try simp only [Act.put, aput]
          refine AnyU.loadc (i := 2) (d := 3) [3] (Si := fun w' => Blk w' bd #[.string n.name, .int .i64 n.ty.kind, .string n.ty.pkg, .int .i64 n.ty.major, .string n.ty.mod, .string n.ty.name, .slice na n.ty.names.length nc, .slice sa n.ty.subs.length sc] 57) (v := ?_) rfl (by kernel_rfl) (by kernel_rfl) (by kernel_rfl) (fun _ _ _ h => h) (by kernel_rfl) (by assumption) (by kernel_rfl) rfl (by simp) (by rfl) ?_ (fun hV => ?_)
          rotate_left 1
          · (intro wq hq; obtain ⟨u0, u1, u2, u3, u4, u5, u6, u7⟩ := cells8 hq; go_simp; try with_reducible rfl)
          clear hU; have hU := hV; clear hV
          try simp only [Act.put, aput]
          refine AnyU.ready1 (i := 3) (by kernel_rfl) (AnyU.one rfl fun K hK => ?_)
          go_simp
          refine (HC1.out _).mono ?_
          rintro e w3 ⟨rfl, hb⟩
          have A3 := Lib.hid (A2.out.trans (hb.mono A2.out.size))
          have BD3 := Lib.hid (BD2.out.under hb BD2.out.lt)
          clear hb
          refine hK.out _ _ (Until.cons (fun h => absurd h (by decide)) (Until.cons (fun _ => BD3.out) Until.nil)) (fun hV => ?_)
          clear hK K
          clear hU; have hU := hV; clear hV
          try simp only [Act.put, aput]
          refine AnyU.take (i := 4) (v := ?_) rfl (by kernel_rfl) (by kernel_rfl) (by kernel_rfl) (fun _ _ _ h => h) (by kernel_rfl) (by assumption) (by rfl) ?_ (fun hV => ?_)
          rotate_left 1
          · (intro wq; go_simp; try with_reducible rfl)
          clear hU; have hU := hV; clear hV
          try simp only [Act.put, aput]
          refine AnyU.take (i := 5) (v := ?_) rfl (by kernel_rfl) (by kernel_rfl) (by kernel_rfl) (fun _ _ _ h => h) (by kernel_rfl) (by assumption) (by rfl) ?_ (fun hV => ?_)
          rotate_left 1
          · (intro wq; go_simp; try with_reducible rfl)
          clear hU; have hU := hV; clear hV
          try simp only [Act.put, aput]
          refine AnyU.take (i := 6) (v := ?_) rfl (by kernel_rfl) (by kernel_rfl) (by kernel_rfl) (fun _ _ _ h => h) (by kernel_rfl) (by assumption) (by rfl) ?_ (fun hV => ?_)
          rotate_left 1
          · (intro wq; go_simp; try with_reducible rfl)
          clear hU; have hU := hV; clear hV
          try simp only [Act.put, aput]
          refine AnyU.take (i := 7) (v := ?_) rfl (by kernel_rfl) (by kernel_rfl) (by kernel_rfl) (fun _ _ _ h => h) (by kernel_rfl) (by assumption) (by rfl) ?_ (fun hV => ?_)
          rotate_left 1
          · (intro wq; go_simp; try with_reducible rfl)
          clear hU; have hU := hV; clear hV
          try simp only [Act.put, aput]
          refine AnyU.take (i := 8) (v := ?_) rfl (by kernel_rfl) (by kernel_rfl) (by kernel_rfl) (fun _ _ _ h => h) (by kernel_rfl) (by assumption) (by rfl) ?_ (fun hV => ?_)
          rotate_left 1
          · (intro wq; go_simp; try with_reducible rfl)
          clear hU; have hU := hV; clear hV
          try simp only [Act.put, aput]
          refine AnyU.skip (i := 9) rfl (by kernel_rfl) (by kernel_rfl) (by kernel_rfl) (fun _ _ _ h => h) (by kernel_rfl) (by assumption) (by rfl) (fun hV => ?_)
          clear hU; have hU := hV; clear hV
          try simp only [Act.put, aput]
          refine AnyU.skip (i := 10) rfl (by kernel_rfl) (by kernel_rfl) (by kernel_rfl) (fun _ _ _ h => h) (by kernel_rfl) (by assumption) (by rfl) (fun hV => ?_)
          clear hU; have hU := hV; clear hV
          try simp only [Act.put, aput]
          refine AnyU.skip (i := 11) rfl (by kernel_rfl) (by kernel_rfl) (by kernel_rfl) (fun _ _ _ h => h) (by kernel_rfl) (by assumption) (by rfl) (fun hV => ?_)
          clear hU; have hU := hV; clear hV
          try simp only [Act.put, aput]
          refine AnyU.skip (i := 12) rfl (by kernel_rfl) (by kernel_rfl) (by kernel_rfl) (fun _ _ _ h => h) (by kernel_rfl) (by assumption) (by rfl) (fun hV => ?_)
          clear hU; have hU := hV; clear hV
          try simp only [Act.put, aput]
          refine AnyU.skip (i := 13) rfl (by kernel_rfl) (by kernel_rfl) (by kernel_rfl) (fun _ _ _ h => h) (by kernel_rfl) (by assumption) (by rfl) (fun hV => ?_)
          clear hU; have hU := hV; clear hV
          try simp only [Act.put, aput]
          refine AnyU.skip (i := 14) rfl (by kernel_rfl) (by kernel_rfl) (by kernel_rfl) (fun _ _ _ h => h) (by kernel_rfl) (by assumption) (by rfl) (fun hV => ?_)
          clear hU; have hU := hV; clear hV
          try simp only [Act.put, aput]
          refine AnyU.skip (i := 15) rfl (by kernel_rfl) (by kernel_rfl) (by kernel_rfl) (fun _ _ _ h => h) (by kernel_rfl) (by assumption) (by rfl) (fun hV => ?_)
          clear hU; have hU := hV; clear hV
          try simp only [Act.put, aput]
          refine AnyU.skip (i := 16) rfl (by kernel_rfl) (by kernel_rfl) (by kernel_rfl) (fun _ _ _ h => h) (by kernel_rfl) (by assumption) (by rfl) (fun hV => ?_)
          clear hU; have hU := hV; clear hV
          try simp only [Act.put, aput]
          refine AnyU.skip (i := 17) rfl (by kernel_rfl) (by kernel_rfl) (by kernel_rfl) (fun _ _ _ h => h) (by kernel_rfl) (by assumption) (by rfl) (fun hV => ?_)
          clear hU; have hU := hV; clear hV
          try simp only [Act.put, aput]
          refine AnyU.take (i := 18) (v := ?_) rfl (by kernel_rfl) (by kernel_rfl) (by kernel_rfl) (fun _ _ _ h => h) (by kernel_rfl) (by assumption) (by rfl) ?_ (fun hV => ?_)
          rotate_left 1
          · (intro wq; go_simp; try with_reducible rfl)
          clear hU; have hU := hV; clear hV
          try simp only [Act.put, aput]
          refine AnyU.take (i := 19) (v := ?_) rfl (by kernel_rfl) (by kernel_rfl) (by kernel_rfl) (fun _ _ _ h => h) (by kernel_rfl) (by assumption) (by rfl) ?_ (fun hV => ?_)
          rotate_left 1
          · (intro wq; go_simp; try with_reducible rfl)
          clear hU; have hU := hV; clear hV
          try simp only [Act.put, aput]
          refine AnyU.take (i := 20) (v := ?_) rfl (by kernel_rfl) (by kernel_rfl) (by kernel_rfl) (fun _ _ _ h => h) (by kernel_rfl) (by assumption) (by rfl) ?_ (fun hV => ?_)
          rotate_left 1
          · (intro wq; go_simp; try with_reducible rfl)
          clear hU; have hU := hV; clear hV
          try simp only [Act.put, aput]
          refine AnyU.take (i := 21) (v := ?_) rfl (by kernel_rfl) (by kernel_rfl) (by kernel_rfl) (fun _ _ _ h => h) (by kernel_rfl) (by assumption) (by rfl) ?_ (fun hV => ?_)
          rotate_left 1
          · (intro wq; go_simp; try with_reducible rfl)
          clear hU; have hU := hV; clear hV
          try simp only [Act.put, aput]
          refine AnyU.loadc (i := 22) (d := 23) [23] (Si := fun w' => Blk w' bd #[.string n.name, .int .i64 n.ty.kind, .string n.ty.pkg, .int .i64 n.ty.major, .string n.ty.mod, .string n.ty.name, .slice na n.ty.names.length nc, .slice sa n.ty.subs.length sc] 57) (v := ?_) rfl (by kernel_rfl) (by kernel_rfl) (by kernel_rfl) (fun _ _ _ h => h) (by kernel_rfl) (by assumption) (by kernel_rfl) rfl (by simp) (by rfl) ?_ (fun hV => ?_)
          rotate_left 1
          · (intro wq hq; obtain ⟨u0, u1, u2, u3, u4, u5, u6, u7⟩ := cells8 hq; go_simp; try with_reducible rfl)
          clear hU; have hU := hV; clear hV
          try simp only [Act.put, aput]
          refine AnyU.ready1 (i := 23) (by kernel_rfl) (AnyU.one rfl fun K hK => ?_)
          go_simp
          go_at_call 56
          refine (HC2.out _ (HTY.out.under (A3.out.mono hBW)) (Nat.le_trans hBW A3.out.size)).mono ?_
          rintro e w4 ⟨rfl, hb⟩
          have A4 := Lib.hid (A3.out.trans (hb.mono A3.out.size))
          have BD4 := Lib.hid (BD3.out.under hb BD3.out.lt)
          clear hb
          refine hK.out _ _ (Until.cons (fun h => absurd h (by decide)) (Until.cons (fun h => absurd h (by decide)) Until.nil)) (fun hV => ?_)
          clear hK K
          clear hU; have hU := hV; clear hV
          try simp only [Act.put, aput]
          refine AnyU.take (i := 24) (v := ?_) rfl (by kernel_rfl) (by kernel_rfl) (by kernel_rfl) (fun _ _ _ h => h) (by kernel_rfl) (by assumption) (by rfl) ?_ (fun hV => ?_)
          rotate_left 1
          · (intro wq; go_simp; try with_reducible rfl)
          clear hU; have hU := hV; clear hV
          try simp only [Act.put, aput]
          refine AnyU.ready1 (i := 25) (by kernel_rfl) (AnyU.one rfl fun K hK => ?_)
          go_simp
          refine hK.out _ _ (Until.off (by kernel_rfl)) (fun hV => ?_)
          clear hK K
          clear hU; have hU := hV; clear hV
          try simp only [Act.put, aput]
          refine AnyU.done (by kernel_rfl) ?_
          go_wp2_with fail
          go_ret
          exact ⟨rfl, A4.out⟩
      · as_aux_lemma =>
          have hok : nmOk p l 0 = true := by rw [HDO.out]; rfl
          refine wp_region_until [(3, fun w' => Blk w' bd #[.string n.name, .int .i64 n.ty.kind, .string n.ty.pkg, .int .i64 n.ty.major, .string n.ty.mod, .string n.ty.name, .slice na n.ty.names.length nc, .slice sa n.ty.subs.length sc] 57), (23, fun w' => Blk w' bd #[.string n.name, .int .i64 n.ty.kind, .string n.ty.pkg, .int .i64 n.ty.major, .string n.ty.mod, .string n.ty.name, .slice na n.ty.names.length nc, .slice sa n.ty.subs.length sc] 57)] (by kernel_rfl) (Until.cons (fun _ => BD.out.drew) (Until.cons (fun _ => BD.out.drew) Until.nil)) (fun hU => ?_)
          have A2d := Lib.hid A2.out.drew
          clear A2
          have A2 := A2d
          clear A2d
          have BD2 := Lib.hid BD.out.drew
          refine AnyU.take (i := 0) (v := ?_) rfl (by kernel_rfl) (by kernel_rfl) (by kernel_rfl) (fun _ _ _ h => h) (by kernel_rfl) (by assumption) (by rfl) ?_ (fun hV => ?_)
          rotate_left 1
          · (intro wq; go_simp; try with_reducible rfl)
          clear hU; have hU := hV; clear hV
          try simp only [Act.put, aput]
          refine AnyU.take (i := 1) (v := ?_) rfl (by kernel_rfl) (by kernel_rfl) (by kernel_rfl) (fun _ _ _ h => h) (by kernel_rfl) (by assumption) (by rfl) ?_ (fun hV => ?_)
          rotate_left 1
          · (intro wq; go_simp; try with_reducible rfl)
          clear hU; have hU := hV; clear hV
          try simp only [Act.put, aput]
          refine AnyU.loadc (i := 2) (d := 3) [3] (Si := fun w' => Blk w' bd #[.string n.name, .int .i64 n.ty.kind, .string n.ty.pkg, .int .i64 n.ty.major, .string n.ty.mod, .string n.ty.name, .slice na n.ty.names.length nc, .slice sa n.ty.subs.length sc] 57) (v := ?_) rfl (by kernel_rfl) (by kernel_rfl) (by kernel_rfl) (fun _ _ _ h => h) (by kernel_rfl) (by assumption) (by kernel_rfl) rfl (by simp) (by rfl) ?_ (fun hV => ?_)
          rotate_left 1
          · (intro wq hq; obtain ⟨u0, u1, u2, u3, u4, u5, u6, u7⟩ := cells8 hq; go_simp; try with_reducible rfl)
          clear hU; have hU := hV; clear hV
          try simp only [Act.put, aput]
          refine AnyU.ready1 (i := 3) (by kernel_rfl) (AnyU.one rfl fun K hK => ?_)
          go_simp
          refine (HC1.out _).mono ?_
          rintro e w3 ⟨rfl, hb⟩
          have A3 := Lib.hid (A2.out.trans (hb.mono A2.out.size))
          have BD3 := Lib.hid (BD2.out.under hb BD2.out.lt)
          clear hb
          refine hK.out _ _ (Until.cons (fun h => absurd h (by decide)) (Until.cons (fun _ => BD3.out) Until.nil)) (fun hV => ?_)
          clear hK K
          clear hU; have hU := hV; clear hV
          try simp only [Act.put, aput]
          refine AnyU.take (i := 4) (v := ?_) rfl (by kernel_rfl) (by kernel_rfl) (by kernel_rfl) (fun _ _ _ h => h) (by kernel_rfl) (by assumption) (by rfl) ?_ (fun hV => ?_)
          rotate_left 1
          · (intro wq; go_simp; try with_reducible rfl)
          clear hU; have hU := hV; clear hV
          try simp only [Act.put, aput]
          refine AnyU.take (i := 5) (v := ?_) rfl (by kernel_rfl) (by kernel_rfl) (by kernel_rfl) (fun _ _ _ h => h) (by kernel_rfl) (by assumption) (by rfl) ?_ (fun hV => ?_)
          rotate_left 1
          · (intro wq; go_simp; try with_reducible rfl)
          clear hU; have hU := hV; clear hV
          try simp only [Act.put, aput]
          refine AnyU.take (i := 6) (v := ?_) rfl (by kernel_rfl) (by kernel_rfl) (by kernel_rfl) (fun _ _ _ h => h) (by kernel_rfl) (by assumption) (by rfl) ?_ (fun hV => ?_)
          rotate_left 1
          · (intro wq; go_simp; try with_reducible rfl)
          clear hU; have hU := hV; clear hV
          try simp only [Act.put, aput]
          refine AnyU.take (i := 7) (v := ?_) rfl (by kernel_rfl) (by kernel_rfl) (by kernel_rfl) (fun _ _ _ h => h) (by kernel_rfl) (by assumption) (by rfl) ?_ (fun hV => ?_)
          rotate_left 1
          · (intro wq; go_simp; try with_reducible rfl)
          clear hU; have hU := hV; clear hV
          try simp only [Act.put, aput]
          refine AnyU.take (i := 8) (v := ?_) rfl (by kernel_rfl) (by kernel_rfl) (by kernel_rfl) (fun _ _ _ h => h) (by kernel_rfl) (by assumption) (by rfl) ?_ (fun hV => ?_)
          rotate_left 1
          · (intro wq; go_simp; try with_reducible rfl)
          clear hU; have hU := hV; clear hV
          try simp only [Act.put, aput]
          refine AnyU.skip (i := 9) rfl (by kernel_rfl) (by kernel_rfl) (by kernel_rfl) (fun _ _ _ h => h) (by kernel_rfl) (by assumption) (by rfl) (fun hV => ?_)
          clear hU; have hU := hV; clear hV
          try simp only [Act.put, aput]
          refine AnyU.skip (i := 10) rfl (by kernel_rfl) (by kernel_rfl) (by kernel_rfl) (fun _ _ _ h => h) (by kernel_rfl) (by assumption) (by rfl) (fun hV => ?_)
          clear hU; have hU := hV; clear hV
          try simp only [Act.put, aput]
          refine AnyU.skip (i := 11) rfl (by kernel_rfl) (by kernel_rfl) (by kernel_rfl) (fun _ _ _ h => h) (by kernel_rfl) (by assumption) (by rfl) (fun hV => ?_)
          clear hU; have hU := hV; clear hV
          try simp only [Act.put, aput]
          refine AnyU.skip (i := 12) rfl (by kernel_rfl) (by kernel_rfl) (by kernel_rfl) (fun _ _ _ h => h) (by kernel_rfl) (by assumption) (by rfl) (fun hV => ?_)
          clear hU; have hU := hV; clear hV
          try simp only [Act.put, aput]
          refine AnyU.skip (i := 13) rfl (by kernel_rfl) (by kernel_rfl) (by kernel_rfl) (fun _ _ _ h => h) (by kernel_rfl) (by assumption) (by rfl) (fun hV => ?_)
          clear hU; have hU := hV; clear hV
          try simp only [Act.put, aput]
          refine AnyU.skip (i := 14) rfl (by kernel_rfl) (by kernel_rfl) (by kernel_rfl) (fun _ _ _ h => h) (by kernel_rfl) (by assumption) (by rfl) (fun hV => ?_)
          clear hU; have hU := hV; clear hV
          try simp only [Act.put, aput]
          refine AnyU.skip (i := 15) rfl (by kernel_rfl) (by kernel_rfl) (by kernel_rfl) (fun _ _ _ h => h) (by kernel_rfl) (by assumption) (by rfl) (fun hV => ?_)
          clear hU; have hU := hV; clear hV
          try simp only [Act.put, aput]
          refine AnyU.skip (i := 16) rfl (by kernel_rfl) (by kernel_rfl) (by kernel_rfl) (fun _ _ _ h => h) (by kernel_rfl) (by assumption) (by rfl) (fun hV => ?_)
          clear hU; have hU := hV; clear hV
          try simp only [Act.put, aput]
          refine AnyU.skip (i := 17) rfl (by kernel_rfl) (by kernel_rfl) (by kernel_rfl) (fun _ _ _ h => h) (by kernel_rfl) (by assumption) (by rfl) (fun hV => ?_)
          clear hU; have hU := hV; clear hV
          try simp only [Act.put, aput]
          refine AnyU.take (i := 18) (v := ?_) rfl (by kernel_rfl) (by kernel_rfl) (by kernel_rfl) (fun _ _ _ h => h) (by kernel_rfl) (by assumption) (by rfl) ?_ (fun hV => ?_)
          rotate_left 1
          · (intro wq; go_simp; try with_reducible rfl)
          clear hU; have hU := hV; clear hV
          try simp only [Act.put, aput]
          refine AnyU.take (i := 19) (v := ?_) rfl (by kernel_rfl) (by kernel_rfl) (by kernel_rfl) (fun _ _ _ h => h) (by kernel_rfl) (by assumption) (by rfl) ?_ (fun hV => ?_)
          rotate_left 1
          · (intro wq; go_simp; try with_reducible rfl)
          clear hU; have hU := hV; clear hV
          try simp only [Act.put, aput]
          refine AnyU.take (i := 20) (v := ?_) rfl (by kernel_rfl) (by kernel_rfl) (by kernel_rfl) (fun _ _ _ h => h) (by kernel_rfl) (by assumption) (by rfl) ?_ (fun hV => ?_)
          rotate_left 1
          · (intro wq; go_simp; try with_reducible rfl)
          clear hU; have hU := hV; clear hV
          try simp only [Act.put, aput]
          refine AnyU.take (i := 21) (v := ?_) rfl (by kernel_rfl) (by kernel_rfl) (by kernel_rfl) (fun _ _ _ h => h) (by kernel_rfl) (by assumption) (by rfl) ?_ (fun hV => ?_)
          rotate_left 1
          · (intro wq; go_simp; try with_reducible rfl)
          clear hU; have hU := hV; clear hV
          try simp only [Act.put, aput]
          refine AnyU.loadc (i := 22) (d := 23) [23] (Si := fun w' => Blk w' bd #[.string n.name, .int .i64 n.ty.kind, .string n.ty.pkg, .int .i64 n.ty.major, .string n.ty.mod, .string n.ty.name, .slice na n.ty.names.length nc, .slice sa n.ty.subs.length sc] 57) (v := ?_) rfl (by kernel_rfl) (by kernel_rfl) (by kernel_rfl) (fun _ _ _ h => h) (by kernel_rfl) (by assumption) (by kernel_rfl) rfl (by simp) (by rfl) ?_ (fun hV => ?_)
          rotate_left 1
          · (intro wq hq; obtain ⟨u0, u1, u2, u3, u4, u5, u6, u7⟩ := cells8 hq; go_simp; try with_reducible rfl)
          clear hU; have hU := hV; clear hV
          try simp only [Act.put, aput]
          refine AnyU.ready1 (i := 23) (by kernel_rfl) (AnyU.one rfl fun K hK => ?_)
          go_simp
          go_at_call 56
          refine (HC2.out _ (HTY.out.under (A3.out.mono hBW)) (Nat.le_trans hBW A3.out.size)).mono ?_
          rintro e w4 ⟨rfl, hb⟩
          have A4 := Lib.hid (A3.out.trans (hb.mono A3.out.size))
          have BD4 := Lib.hid (BD3.out.under hb BD3.out.lt)
          clear hb
          refine hK.out _ _ (Until.cons (fun h => absurd h (by decide)) (Until.cons (fun h => absurd h (by decide)) Until.nil)) (fun hV => ?_)
          clear hK K
          clear hU; have hU := hV; clear hV
          try simp only [Act.put, aput]
          refine AnyU.take (i := 24) (v := ?_) rfl (by kernel_rfl) (by kernel_rfl) (by kernel_rfl) (fun _ _ _ h => h) (by kernel_rfl) (by assumption) (by rfl) ?_ (fun hV => ?_)
          rotate_left 1
          · (intro wq; go_simp; try with_reducible rfl)
          clear hU; have hU := hV; clear hV
          try simp only [Act.put, aput]
          refine AnyU.ready1 (i := 25) (by kernel_rfl) (AnyU.one rfl fun K hK => ?_)
          go_simp
          refine hK.out _ _ (Until.off (by kernel_rfl)) (fun hV => ?_)
          clear hK K
          clear hU; have hU := hV; clear hV
          try simp only [Act.put, aput]
          refine AnyU.done (by kernel_rfl) ?_
          go_wp2_with fail
          exact ⟨⟨0 + 1, by go_num, by omega, A4.out, fun i hi => by obtain rfl : i = 0 := by omega
                                                                     exact hok⟩, by simp [intOf]; omega⟩
    have hk0I : (0 : Int) < (k : Int) := by omega
    have hk0D : decide (0 < k) = true := by simp; omega
    have hkB : ((k - 1 : Nat) : Int) < (l.length : Int) := by omega
    have hkB2 : k - 1 < l.length := by omega
    have hkw : IntKind.i64.wrap ((k - 1 : Nat) : Int) = ((k - 1 : Nat) : Int) := by rw [IntKind.wrap_i64]; omega
    have hkm : (k : Int) - 1 = ((k - 1 : Nat) : Int) := by omega
    obtain ⟨q, hq⟩ : ∃ q, (l[k - 1]'(by omega)).name = q := ⟨_, rfl⟩
    obtain ⟨-, b', o', -, -, -, -, e', -, -, hcq, -⟩ := H.out.elem hkB2 rfl
    injection e' with e'
    injection e' with e1 e2
    subst e1 e2
    rw [hq] at hcq
    have HCQ := Lib.hid hcq
    rw [hq] at HDO
    obtain ⟨lt, hlt2⟩ : ∃ x, ltB q n.name = x := ⟨_, rfl⟩
    rw [hlt2] at HDO
    have HLT := Lib.hid (show Op.bytesLess q.toList n.name.toList = lt from hlt2)
    clear hcq hlt2 hq
    cases lt
    · as_aux_lemma =>
        have hbad := named_bad hlt (by rw [HDO.out]; simp [h0])
        rw [HR.out] at hbad
        subst hbad
        have hl3 := HLT.out
        refine wp_region_until [(3, fun w' => Blk w' bd #[.string n.name, .int .i64 n.ty.kind, .string n.ty.pkg, .int .i64 n.ty.major, .string n.ty.mod, .string n.ty.name, .slice na n.ty.names.length nc, .slice sa n.ty.subs.length sc] 57), (25, fun w' => Blk w' bd #[.string n.name, .int .i64 n.ty.kind, .string n.ty.pkg, .int .i64 n.ty.major, .string n.ty.mod, .string n.ty.name, .slice na n.ty.names.length nc, .slice sa n.ty.subs.length sc] 57), (25, fun w' => w'.cell? ⟨b, o + (k - 1) * 8, none⟩ = some (.string q))] (by kernel_rfl) (Until.cons (fun _ => BD.out.drew) (Until.cons (fun _ => BD.out.drew) (Until.cons (fun _ => ((A2.out.cell (p := ⟨b, _, none⟩) hbW).trans HCQ.out)) Until.nil))) (fun hU => ?_)
        have A2d := Lib.hid A2.out.drew
        clear A2
        have A2 := A2d
        clear A2d
        have BD2 := Lib.hid BD.out.drew
        refine AnyU.take (i := 0) (v := ?_) rfl (by kernel_rfl) (by kernel_rfl) (by kernel_rfl) (fun _ _ _ h => h) (by kernel_rfl) (by assumption) (by rfl) ?_ (fun hV => ?_)
        rotate_left 1
        · (intro wq; go_simp; try with_reducible rfl)
        clear hU; have hU := hV; clear hV
        try simp only [Act.put, aput]
        refine AnyU.take (i := 1) (v := ?_) rfl (by kernel_rfl) (by kernel_rfl) (by kernel_rfl) (fun _ _ _ h => h) (by kernel_rfl) (by assumption) (by rfl) ?_ (fun hV => ?_)
        rotate_left 1
        · (intro wq; go_simp; try with_reducible rfl)
        clear hU; have hU := hV; clear hV
        try simp only [Act.put, aput]
        refine AnyU.loadc (i := 2) (d := 3) [3] (Si := fun w' => Blk w' bd #[.string n.name, .int .i64 n.ty.kind, .string n.ty.pkg, .int .i64 n.ty.major, .string n.ty.mod, .string n.ty.name, .slice na n.ty.names.length nc, .slice sa n.ty.subs.length sc] 57) (v := ?_) rfl (by kernel_rfl) (by kernel_rfl) (by kernel_rfl) (fun _ _ _ h => h) (by kernel_rfl) (by assumption) (by kernel_rfl) rfl (by simp) (by rfl) ?_ (fun hV => ?_)
        rotate_left 1
        · (intro wq hq; obtain ⟨u0, u1, u2, u3, u4, u5, u6, u7⟩ := cells8 hq; go_simp; try with_reducible rfl)
        clear hU; have hU := hV; clear hV
        try simp only [Act.put, aput]
        refine AnyU.ready1 (i := 3) (by kernel_rfl) (AnyU.one rfl fun K hK => ?_)
        go_simp
        refine (HC1.out _).mono ?_
        rintro e w3 ⟨rfl, hb⟩
        have A3 := Lib.hid (A2.out.trans (hb.mono A2.out.size))
        have BD3 := Lib.hid (BD2.out.under hb BD2.out.lt)
        clear hb
        refine hK.out _ _ (Until.cons (fun h => absurd h (by decide)) (Until.cons (fun _ => BD3.out) (Until.cons (fun _ => (A3.out.cell (p := ⟨b, _, none⟩) hbW).trans HCQ.out) Until.nil))) (fun hV => ?_)
        clear hK K
        clear hU; have hU := hV; clear hV
        try simp only [Act.put, aput]
        refine AnyU.take (i := 4) (v := ?_) rfl (by kernel_rfl) (by kernel_rfl) (by kernel_rfl) (fun _ _ _ h => h) (by kernel_rfl) (by assumption) (by rfl) ?_ (fun hV => ?_)
        rotate_left 1
        · (intro wq; go_simp; try with_reducible rfl)
        clear hU; have hU := hV; clear hV
        try simp only [Act.put, aput]
        refine AnyU.take (i := 5) (v := ?_) rfl (by kernel_rfl) (by kernel_rfl) (by kernel_rfl) (fun _ _ _ h => h) (by kernel_rfl) (by assumption) (by rfl) ?_ (fun hV => ?_)
        rotate_left 1
        · (intro wq; go_simp; try with_reducible rfl)
        clear hU; have hU := hV; clear hV
        try simp only [Act.put, aput]
        refine AnyU.take (i := 6) (v := ?_) rfl (by kernel_rfl) (by kernel_rfl) (by kernel_rfl) (fun _ _ _ h => h) (by kernel_rfl) (by assumption) (by rfl) ?_ (fun hV => ?_)
        rotate_left 1
        · (intro wq; go_simp; try with_reducible rfl)
        clear hU; have hU := hV; clear hV
        try simp only [Act.put, aput]
        refine AnyU.take (i := 7) (v := ?_) rfl (by kernel_rfl) (by kernel_rfl) (by kernel_rfl) (fun _ _ _ h => h) (by kernel_rfl) (by assumption) (by rfl) ?_ (fun hV => ?_)
        rotate_left 1
        · (intro wq; go_simp; try with_reducible rfl)
        clear hU; have hU := hV; clear hV
        try simp only [Act.put, aput]
        refine AnyU.take (i := 8) (v := ?_) rfl (by kernel_rfl) (by kernel_rfl) (by kernel_rfl) (fun _ _ _ h => h) (by kernel_rfl) (by assumption) (by rfl) ?_ (fun hV => ?_)
        rotate_left 1
        · (intro wq; go_simp; try with_reducible rfl)
        clear hU; have hU := hV; clear hV
        try simp only [Act.put, aput]
        refine AnyU.take (i := 9) (v := ?_) rfl (by kernel_rfl) (by kernel_rfl) (by kernel_rfl) (fun _ _ _ h => h) (by kernel_rfl) (by assumption) (by rfl) ?_ (fun hV => ?_)
        rotate_left 1
        · (intro wq; go_simp; try with_reducible rfl)
        clear hU; have hU := hV; clear hV
        try simp only [Act.put, aput]
        refine AnyU.take (i := 10) (v := ?_) rfl (by kernel_rfl) (by kernel_rfl) (by kernel_rfl) (fun _ _ _ h => h) (by kernel_rfl) (by assumption) (by rfl) ?_ (fun hV => ?_)
        rotate_left 1
        · (intro wq; go_simp; try with_reducible rfl)
        clear hU; have hU := hV; clear hV
        try simp only [Act.put, aput]
        refine AnyU.take (i := 11) (v := ?_) rfl (by kernel_rfl) (by kernel_rfl) (by kernel_rfl) (fun _ _ _ h => h) (by kernel_rfl) (by assumption) (by rfl) ?_ (fun hV => ?_)
        rotate_left 1
        · (intro wq; go_simp; try with_reducible rfl)
        clear hU; have hU := hV; clear hV
        try simp only [Act.put, aput]
        refine AnyU.take (i := 12) (v := ?_) rfl (by kernel_rfl) (by kernel_rfl) (by kernel_rfl) (fun _ _ _ h => h) (by kernel_rfl) (by assumption) (by rfl) ?_ (fun hV => ?_)
        rotate_left 1
        · (intro wq; go_simp; try with_reducible rfl)
        clear hU; have hU := hV; clear hV
        try simp only [Act.put, aput]
        refine AnyU.take (i := 13) (v := ?_) rfl (by kernel_rfl) (by kernel_rfl) (by kernel_rfl) (fun _ _ _ h => h) (by kernel_rfl) (by assumption) (by rfl) ?_ (fun hV => ?_)
        rotate_left 1
        · (intro wq; go_simp; try with_reducible rfl)
        clear hU; have hU := hV; clear hV
        try simp only [Act.put, aput]
        refine AnyU.loadc (i := 14) (d := 25) [17, 18, 19, 20, 25] (Si := fun w' => w'.cell? ⟨b, o + (k - 1) * 8, none⟩ = some (.string q)) (v := ?_) rfl (by kernel_rfl) (by kernel_rfl) (by kernel_rfl) (fun _ _ _ h => h) (by kernel_rfl) (by assumption) (by kernel_rfl) rfl (by simp) (by rfl) ?_ (fun hV => ?_)
        rotate_left 1
        · (intro wq hq; go_simp; try with_reducible rfl)
        clear hU; have hU := hV; clear hV
        try simp only [Act.put, aput]
        refine AnyU.take (i := 15) (v := ?_) rfl (by kernel_rfl) (by kernel_rfl) (by kernel_rfl) (fun _ _ _ h => h) (by kernel_rfl) (by assumption) (by rfl) ?_ (fun hV => ?_)
        rotate_left 1
        · (intro wq; go_simp; try with_reducible rfl)
        clear hU; have hU := hV; clear hV
        try simp only [Act.put, aput]
        refine AnyU.loadc (i := 16) (d := 25) [17, 18, 19, 20, 25] (Si := fun w' => Blk w' bd #[.string n.name, .int .i64 n.ty.kind, .string n.ty.pkg, .int .i64 n.ty.major, .string n.ty.mod, .string n.ty.name, .slice na n.ty.names.length nc, .slice sa n.ty.subs.length sc] 57) (v := ?_) rfl (by kernel_rfl) (by kernel_rfl) (by kernel_rfl) (fun _ _ _ h => h) (by kernel_rfl) (by assumption) (by kernel_rfl) rfl (by simp) (by rfl) ?_ (fun hV => ?_)
        rotate_left 1
        · (intro wq hq; obtain ⟨u0, u1, u2, u3, u4, u5, u6, u7⟩ := cells8 hq; go_simp; try with_reducible rfl)
        clear hU; have hU := hV; clear hV
        try simp only [Act.put, aput]
        refine AnyU.take (i := 17) (v := ?_) rfl (by kernel_rfl) (by kernel_rfl) (by kernel_rfl) (fun _ _ _ h => h) (by kernel_rfl) (by assumption) (by rfl) ?_ (fun hV => ?_)
        rotate_left 1
        · (intro wq; go_simp; try with_reducible rfl)
        clear hU; have hU := hV; clear hV
        try simp only [Act.put, aput]
        refine AnyU.take (i := 18) (v := ?_) rfl (by kernel_rfl) (by kernel_rfl) (by kernel_rfl) (fun _ _ _ h => h) (by kernel_rfl) (by assumption) (by rfl) ?_ (fun hV => ?_)
        rotate_left 1
        · (intro wq; go_simp; try with_reducible rfl)
        clear hU; have hU := hV; clear hV
        try simp only [Act.put, aput]
        refine AnyU.take (i := 19) (v := ?_) rfl (by kernel_rfl) (by kernel_rfl) (by kernel_rfl) (fun _ _ _ h => h) (by kernel_rfl) (by assumption) (by rfl) ?_ (fun hV => ?_)
        rotate_left 1
        · (intro wq; go_simp; try with_reducible rfl)
        clear hU; have hU := hV; clear hV
        try simp only [Act.put, aput]
        refine AnyU.take (i := 20) (v := ?_) rfl (by kernel_rfl) (by kernel_rfl) (by kernel_rfl) (fun _ _ _ h => h) (by kernel_rfl) (by assumption) (by rfl) ?_ (fun hV => ?_)
        rotate_left 1
        · (intro wq; go_simp; try with_reducible rfl)
        clear hU; have hU := hV; clear hV
        try simp only [Act.put, aput]
        refine AnyU.skip (i := 21) rfl (by kernel_rfl) (by kernel_rfl) (by kernel_rfl) (fun _ _ _ h => h) (by kernel_rfl) (by assumption) (by rfl) (fun hV => ?_)
        clear hU; have hU := hV; clear hV
        try simp only [Act.put, aput]
        refine AnyU.skip (i := 22) rfl (by kernel_rfl) (by kernel_rfl) (by kernel_rfl) (fun _ _ _ h => h) (by kernel_rfl) (by assumption) (by rfl) (fun hV => ?_)
        clear hU; have hU := hV; clear hV
        try simp only [Act.put, aput]
        refine AnyU.skip (i := 23) rfl (by kernel_rfl) (by kernel_rfl) (by kernel_rfl) (fun _ _ _ h => h) (by kernel_rfl) (by assumption) (by rfl) (fun hV => ?_)
        clear hU; have hU := hV; clear hV
        try simp only [Act.put, aput]
        refine AnyU.skip (i := 24) rfl (by kernel_rfl) (by kernel_rfl) (by kernel_rfl) (fun _ _ _ h => h) (by kernel_rfl) (by assumption) (by rfl) (fun hV => ?_)
        clear hU; have hU := hV; clear hV
        try simp only [Act.put, aput]
        refine AnyU.ready1 (i := 25) (by kernel_rfl) (AnyU.one rfl fun K hK => ?_)
        go_simp
        refine hK.out _ _ (Until.off (by kernel_rfl)) (fun hV => ?_)
        clear hK K
        clear hU; have hU := hV; clear hV
        try simp only [Act.put, aput]
        refine AnyU.done (by kernel_rfl) ?_
        go_wp2_with fail
        go_ret
        exact ⟨rfl, A3.out⟩
    cases pl
    · as_aux_lemma =>
        have hbad := named_bad hlt (by rw [HDO.out]; simp)
        rw [HR.out] at hbad
        subst hbad
        have hl3 := HLT.out
        refine wp_region_until [(3, fun w' => Blk w' bd #[.string n.name, .int .i64 n.ty.kind, .string n.ty.pkg, .int .i64 n.ty.major, .string n.ty.mod, .string n.ty.name, .slice na n.ty.names.length nc, .slice sa n.ty.subs.length sc] 57), (23, fun w' => Blk w' bd #[.string n.name, .int .i64 n.ty.kind, .string n.ty.pkg, .int .i64 n.ty.major, .string n.ty.mod, .string n.ty.name, .slice na n.ty.names.length nc, .slice sa n.ty.subs.length sc] 57), (25, fun w' => Blk w' bd #[.string n.name, .int .i64 n.ty.kind, .string n.ty.pkg, .int .i64 n.ty.major, .string n.ty.mod, .string n.ty.name, .slice na n.ty.names.length nc, .slice sa n.ty.subs.length sc] 57), (25, fun w' => w'.cell? ⟨b, o + (k - 1) * 8, none⟩ = some (.string q))] (by kernel_rfl) (Until.cons (fun _ => BD.out.drew) (Until.cons (fun _ => BD.out.drew) (Until.cons (fun _ => BD.out.drew) (Until.cons (fun _ => ((A2.out.cell (p := ⟨b, _, none⟩) hbW).trans HCQ.out)) Until.nil)))) (fun hU => ?_)
        have A2d := Lib.hid A2.out.drew
        clear A2
        have A2 := A2d
        clear A2d
        have BD2 := Lib.hid BD.out.drew
        refine AnyU.take (i := 0) (v := ?_) rfl (by kernel_rfl) (by kernel_rfl) (by kernel_rfl) (fun _ _ _ h => h) (by kernel_rfl) (by assumption) (by rfl) ?_ (fun hV => ?_)
        rotate_left 1
        · (intro wq; go_simp; try with_reducible rfl)
        clear hU; have hU := hV; clear hV
        try simp only [Act.put, aput]
        refine AnyU.take (i := 1) (v := ?_) rfl (by kernel_rfl) (by kernel_rfl) (by kernel_rfl) (fun _ _ _ h => h) (by kernel_rfl) (by assumption) (by rfl) ?_ (fun hV => ?_)
        rotate_left 1
        · (intro wq; go_simp; try with_reducible rfl)
        clear hU; have hU := hV; clear hV
        try simp only [Act.put, aput]
        refine AnyU.loadc (i := 2) (d := 3) [3] (Si := fun w' => Blk w' bd #[.string n.name, .int .i64 n.ty.kind, .string n.ty.pkg, .int .i64 n.ty.major, .string n.ty.mod, .string n.ty.name, .slice na n.ty.names.length nc, .slice sa n.ty.subs.length sc] 57) (v := ?_) rfl (by kernel_rfl) (by kernel_rfl) (by kernel_rfl) (fun _ _ _ h => h) (by kernel_rfl) (by assumption) (by kernel_rfl) rfl (by simp) (by rfl) ?_ (fun hV => ?_)
        rotate_left 1
        · (intro wq hq; obtain ⟨u0, u1, u2, u3, u4, u5, u6, u7⟩ := cells8 hq; go_simp; try with_reducible rfl)
        clear hU; have hU := hV; clear hV
        try simp only [Act.put, aput]
        refine AnyU.ready1 (i := 3) (by kernel_rfl) (AnyU.one rfl fun K hK => ?_)
        go_simp
        refine (HC1.out _).mono ?_
        rintro e w3 ⟨rfl, hb⟩
        have A3 := Lib.hid (A2.out.trans (hb.mono A2.out.size))
        have BD3 := Lib.hid (BD2.out.under hb BD2.out.lt)
        clear hb
        refine hK.out _ _ (Until.cons (fun h => absurd h (by decide)) (Until.cons (fun _ => BD3.out) (Until.cons (fun _ => BD3.out) (Until.cons (fun _ => (A3.out.cell (p := ⟨b, _, none⟩) hbW).trans HCQ.out) Until.nil)))) (fun hV => ?_)
        clear hK K
        clear hU; have hU := hV; clear hV
        try simp only [Act.put, aput]
        refine AnyU.take (i := 4) (v := ?_) rfl (by kernel_rfl) (by kernel_rfl) (by kernel_rfl) (fun _ _ _ h => h) (by kernel_rfl) (by assumption) (by rfl) ?_ (fun hV => ?_)
        rotate_left 1
        · (intro wq; go_simp; try with_reducible rfl)
        clear hU; have hU := hV; clear hV
        try simp only [Act.put, aput]
        refine AnyU.take (i := 5) (v := ?_) rfl (by kernel_rfl) (by kernel_rfl) (by kernel_rfl) (fun _ _ _ h => h) (by kernel_rfl) (by assumption) (by rfl) ?_ (fun hV => ?_)
        rotate_left 1
        · (intro wq; go_simp; try with_reducible rfl)
        clear hU; have hU := hV; clear hV
        try simp only [Act.put, aput]
        refine AnyU.take (i := 6) (v := ?_) rfl (by kernel_rfl) (by kernel_rfl) (by kernel_rfl) (fun _ _ _ h => h) (by kernel_rfl) (by assumption) (by rfl) ?_ (fun hV => ?_)
        rotate_left 1
        · (intro wq; go_simp; try with_reducible rfl)
        clear hU; have hU := hV; clear hV
        try simp only [Act.put, aput]
        refine AnyU.take (i := 7) (v := ?_) rfl (by kernel_rfl) (by kernel_rfl) (by kernel_rfl) (fun _ _ _ h => h) (by kernel_rfl) (by assumption) (by rfl) ?_ (fun hV => ?_)
        rotate_left 1
        · (intro wq; go_simp; try with_reducible rfl)
        clear hU; have hU := hV; clear hV
        try simp only [Act.put, aput]
        refine AnyU.take (i := 8) (v := ?_) rfl (by kernel_rfl) (by kernel_rfl) (by kernel_rfl) (fun _ _ _ h => h) (by kernel_rfl) (by assumption) (by rfl) ?_ (fun hV => ?_)
        rotate_left 1
        · (intro wq; go_simp; try with_reducible rfl)
        clear hU; have hU := hV; clear hV
        try simp only [Act.put, aput]
        refine AnyU.take (i := 9) (v := ?_) rfl (by kernel_rfl) (by kernel_rfl) (by kernel_rfl) (fun _ _ _ h => h) (by kernel_rfl) (by assumption) (by rfl) ?_ (fun hV => ?_)
        rotate_left 1
        · (intro wq; go_simp; try with_reducible rfl)
        clear hU; have hU := hV; clear hV
        try simp only [Act.put, aput]
        refine AnyU.take (i := 10) (v := ?_) rfl (by kernel_rfl) (by kernel_rfl) (by kernel_rfl) (fun _ _ _ h => h) (by kernel_rfl) (by assumption) (by rfl) ?_ (fun hV => ?_)
        rotate_left 1
        · (intro wq; go_simp; try with_reducible rfl)
        clear hU; have hU := hV; clear hV
        try simp only [Act.put, aput]
        refine AnyU.take (i := 11) (v := ?_) rfl (by kernel_rfl) (by kernel_rfl) (by kernel_rfl) (fun _ _ _ h => h) (by kernel_rfl) (by assumption) (by rfl) ?_ (fun hV => ?_)
        rotate_left 1
        · (intro wq; go_simp; try with_reducible rfl)
        clear hU; have hU := hV; clear hV
        try simp only [Act.put, aput]
        refine AnyU.take (i := 12) (v := ?_) rfl (by kernel_rfl) (by kernel_rfl) (by kernel_rfl) (fun _ _ _ h => h) (by kernel_rfl) (by assumption) (by rfl) ?_ (fun hV => ?_)
        rotate_left 1
        · (intro wq; go_simp; try with_reducible rfl)
        clear hU; have hU := hV; clear hV
        try simp only [Act.put, aput]
        refine AnyU.take (i := 13) (v := ?_) rfl (by kernel_rfl) (by kernel_rfl) (by kernel_rfl) (fun _ _ _ h => h) (by kernel_rfl) (by assumption) (by rfl) ?_ (fun hV => ?_)
        rotate_left 1
        · (intro wq; go_simp; try with_reducible rfl)
        clear hU; have hU := hV; clear hV
        try simp only [Act.put, aput]
        refine AnyU.loadc (i := 14) (d := 25) [17, 18, 19, 20, 25] (Si := fun w' => w'.cell? ⟨b, o + (k - 1) * 8, none⟩ = some (.string q)) (v := ?_) rfl (by kernel_rfl) (by kernel_rfl) (by kernel_rfl) (fun _ _ _ h => h) (by kernel_rfl) (by assumption) (by kernel_rfl) rfl (by simp) (by rfl) ?_ (fun hV => ?_)
        rotate_left 1
        · (intro wq hq; go_simp; try with_reducible rfl)
        clear hU; have hU := hV; clear hV
        try simp only [Act.put, aput]
        refine AnyU.take (i := 15) (v := ?_) rfl (by kernel_rfl) (by kernel_rfl) (by kernel_rfl) (fun _ _ _ h => h) (by kernel_rfl) (by assumption) (by rfl) ?_ (fun hV => ?_)
        rotate_left 1
        · (intro wq; go_simp; try with_reducible rfl)
        clear hU; have hU := hV; clear hV
        try simp only [Act.put, aput]
        refine AnyU.loadc (i := 16) (d := 25) [17, 18, 19, 20, 25] (Si := fun w' => Blk w' bd #[.string n.name, .int .i64 n.ty.kind, .string n.ty.pkg, .int .i64 n.ty.major, .string n.ty.mod, .string n.ty.name, .slice na n.ty.names.length nc, .slice sa n.ty.subs.length sc] 57) (v := ?_) rfl (by kernel_rfl) (by kernel_rfl) (by kernel_rfl) (fun _ _ _ h => h) (by kernel_rfl) (by assumption) (by kernel_rfl) rfl (by simp) (by rfl) ?_ (fun hV => ?_)
        rotate_left 1
        · (intro wq hq; obtain ⟨u0, u1, u2, u3, u4, u5, u6, u7⟩ := cells8 hq; go_simp; try with_reducible rfl)
        clear hU; have hU := hV; clear hV
        try simp only [Act.put, aput]
        refine AnyU.take (i := 17) (v := ?_) rfl (by kernel_rfl) (by kernel_rfl) (by kernel_rfl) (fun _ _ _ h => h) (by kernel_rfl) (by assumption) (by rfl) ?_ (fun hV => ?_)
        rotate_left 1
        · (intro wq; go_simp; try with_reducible rfl)
        clear hU; have hU := hV; clear hV
        try simp only [Act.put, aput]
        refine AnyU.take (i := 18) (v := ?_) rfl (by kernel_rfl) (by kernel_rfl) (by kernel_rfl) (fun _ _ _ h => h) (by kernel_rfl) (by assumption) (by rfl) ?_ (fun hV => ?_)
        rotate_left 1
        · (intro wq; go_simp; try with_reducible rfl)
        clear hU; have hU := hV; clear hV
        try simp only [Act.put, aput]
        refine AnyU.take (i := 19) (v := ?_) rfl (by kernel_rfl) (by kernel_rfl) (by kernel_rfl) (fun _ _ _ h => h) (by kernel_rfl) (by assumption) (by rfl) ?_ (fun hV => ?_)
        rotate_left 1
        · (intro wq; go_simp; try with_reducible rfl)
        clear hU; have hU := hV; clear hV
        try simp only [Act.put, aput]
        refine AnyU.take (i := 20) (v := ?_) rfl (by kernel_rfl) (by kernel_rfl) (by kernel_rfl) (fun _ _ _ h => h) (by kernel_rfl) (by assumption) (by rfl) ?_ (fun hV => ?_)
        rotate_left 1
        · (intro wq; go_simp; try with_reducible rfl)
        clear hU; have hU := hV; clear hV
        try simp only [Act.put, aput]
        refine AnyU.take (i := 21) (v := ?_) rfl (by kernel_rfl) (by kernel_rfl) (by kernel_rfl) (fun _ _ _ h => h) (by kernel_rfl) (by assumption) (by rfl) ?_ (fun hV => ?_)
        rotate_left 1
        · (intro wq; go_simp; try with_reducible rfl)
        clear hU; have hU := hV; clear hV
        try simp only [Act.put, aput]
        refine AnyU.loadc (i := 22) (d := 23) [23] (Si := fun w' => Blk w' bd #[.string n.name, .int .i64 n.ty.kind, .string n.ty.pkg, .int .i64 n.ty.major, .string n.ty.mod, .string n.ty.name, .slice na n.ty.names.length nc, .slice sa n.ty.subs.length sc] 57) (v := ?_) rfl (by kernel_rfl) (by kernel_rfl) (by kernel_rfl) (fun _ _ _ h => h) (by kernel_rfl) (by assumption) (by kernel_rfl) rfl (by simp) (by rfl) ?_ (fun hV => ?_)
        rotate_left 1
        · (intro wq hq; obtain ⟨u0, u1, u2, u3, u4, u5, u6, u7⟩ := cells8 hq; go_simp; try with_reducible rfl)
        clear hU; have hU := hV; clear hV
        try simp only [Act.put, aput]
        refine AnyU.ready1 (i := 23) (by kernel_rfl) (AnyU.one rfl fun K hK => ?_)
        go_simp
        go_at_call 56
        refine (HC2.out _ (HTY.out.under (A3.out.mono hBW)) (Nat.le_trans hBW A3.out.size)).mono ?_
        rintro e w4 ⟨rfl, hb⟩
        have A4 := Lib.hid (A3.out.trans (hb.mono A3.out.size))
        have BD4 := Lib.hid (BD3.out.under hb BD3.out.lt)
        clear hb
        refine hK.out _ _ (Until.cons (fun h => absurd h (by decide)) (Until.cons (fun h => absurd h (by decide)) (Until.cons (fun _ => BD4.out) (Until.cons (fun _ => (A4.out.cell (p := ⟨b, _, none⟩) hbW).trans HCQ.out) Until.nil)))) (fun hV => ?_)
        clear hK K
        clear hU; have hU := hV; clear hV
        try simp only [Act.put, aput]
        refine AnyU.take (i := 24) (v := ?_) rfl (by kernel_rfl) (by kernel_rfl) (by kernel_rfl) (fun _ _ _ h => h) (by kernel_rfl) (by assumption) (by rfl) ?_ (fun hV => ?_)
        rotate_left 1
        · (intro wq; go_simp; try with_reducible rfl)
        clear hU; have hU := hV; clear hV
        try simp only [Act.put, aput]
        refine AnyU.ready1 (i := 25) (by kernel_rfl) (AnyU.one rfl fun K hK => ?_)
        go_simp
        refine hK.out _ _ (Until.off (by kernel_rfl)) (fun hV => ?_)
        clear hK K
        clear hU; have hU := hV; clear hV
        try simp only [Act.put, aput]
        refine AnyU.done (by kernel_rfl) ?_
        go_wp2_with fail
        go_ret
        exact ⟨rfl, A4.out⟩
    · as_aux_lemma =>
        have hok : nmOk p l k = true := by rw [HDO.out]; simp
        have hl3 := HLT.out
        refine wp_region_until [(3, fun w' => Blk w' bd #[.string n.name, .int .i64 n.ty.kind, .string n.ty.pkg, .int .i64 n.ty.major, .string n.ty.mod, .string n.ty.name, .slice na n.ty.names.length nc, .slice sa n.ty.subs.length sc] 57), (23, fun w' => Blk w' bd #[.string n.name, .int .i64 n.ty.kind, .string n.ty.pkg, .int .i64 n.ty.major, .string n.ty.mod, .string n.ty.name, .slice na n.ty.names.length nc, .slice sa n.ty.subs.length sc] 57), (25, fun w' => Blk w' bd #[.string n.name, .int .i64 n.ty.kind, .string n.ty.pkg, .int .i64 n.ty.major, .string n.ty.mod, .string n.ty.name, .slice na n.ty.names.length nc, .slice sa n.ty.subs.length sc] 57), (25, fun w' => w'.cell? ⟨b, o + (k - 1) * 8, none⟩ = some (.string q))] (by kernel_rfl) (Until.cons (fun _ => BD.out.drew) (Until.cons (fun _ => BD.out.drew) (Until.cons (fun _ => BD.out.drew) (Until.cons (fun _ => ((A2.out.cell (p := ⟨b, _, none⟩) hbW).trans HCQ.out)) Until.nil)))) (fun hU => ?_)
        have A2d := Lib.hid A2.out.drew
        clear A2
        have A2 := A2d
        clear A2d
        have BD2 := Lib.hid BD.out.drew
        refine AnyU.take (i := 0) (v := ?_) rfl (by kernel_rfl) (by kernel_rfl) (by kernel_rfl) (fun _ _ _ h => h) (by kernel_rfl) (by assumption) (by rfl) ?_ (fun hV => ?_)
        rotate_left 1
        · (intro wq; go_simp; try with_reducible rfl)
        clear hU; have hU := hV; clear hV
        try simp only [Act.put, aput]
        refine AnyU.take (i := 1) (v := ?_) rfl (by kernel_rfl) (by kernel_rfl) (by kernel_rfl) (fun _ _ _ h => h) (by kernel_rfl) (by assumption) (by rfl) ?_ (fun hV => ?_)
        rotate_left 1
        · (intro wq; go_simp; try with_reducible rfl)
        clear hU; have hU := hV; clear hV
        try simp only [Act.put, aput]
        refine AnyU.loadc (i := 2) (d := 3) [3] (Si := fun w' => Blk w' bd #[.string n.name, .int .i64 n.ty.kind, .string n.ty.pkg, .int .i64 n.ty.major, .string n.ty.mod, .string n.ty.name, .slice na n.ty.names.length nc, .slice sa n.ty.subs.length sc] 57) (v := ?_) rfl (by kernel_rfl) (by kernel_rfl) (by kernel_rfl) (fun _ _ _ h => h) (by kernel_rfl) (by assumption) (by kernel_rfl) rfl (by simp) (by rfl) ?_ (fun hV => ?_)
        rotate_left 1
        · (intro wq hq; obtain ⟨u0, u1, u2, u3, u4, u5, u6, u7⟩ := cells8 hq; go_simp; try with_reducible rfl)
        clear hU; have hU := hV; clear hV
        try simp only [Act.put, aput]
        refine AnyU.ready1 (i := 3) (by kernel_rfl) (AnyU.one rfl fun K hK => ?_)
        go_simp
        refine (HC1.out _).mono ?_
        rintro e w3 ⟨rfl, hb⟩
        have A3 := Lib.hid (A2.out.trans (hb.mono A2.out.size))
        have BD3 := Lib.hid (BD2.out.under hb BD2.out.lt)
        clear hb
        refine hK.out _ _ (Until.cons (fun h => absurd h (by decide)) (Until.cons (fun _ => BD3.out) (Until.cons (fun _ => BD3.out) (Until.cons (fun _ => (A3.out.cell (p := ⟨b, _, none⟩) hbW).trans HCQ.out) Until.nil)))) (fun hV => ?_)
        clear hK K
        clear hU; have hU := hV; clear hV
        try simp only [Act.put, aput]
        refine AnyU.take (i := 4) (v := ?_) rfl (by kernel_rfl) (by kernel_rfl) (by kernel_rfl) (fun _ _ _ h => h) (by kernel_rfl) (by assumption) (by rfl) ?_ (fun hV => ?_)
        rotate_left 1
        · (intro wq; go_simp; try with_reducible rfl)
        clear hU; have hU := hV; clear hV
        try simp only [Act.put, aput]
        refine AnyU.take (i := 5) (v := ?_) rfl (by kernel_rfl) (by kernel_rfl) (by kernel_rfl) (fun _ _ _ h => h) (by kernel_rfl) (by assumption) (by rfl) ?_ (fun hV => ?_)
        rotate_left 1
        · (intro wq; go_simp; try with_reducible rfl)
        clear hU; have hU := hV; clear hV
        try simp only [Act.put, aput]
        refine AnyU.take (i := 6) (v := ?_) rfl (by kernel_rfl) (by kernel_rfl) (by kernel_rfl) (fun _ _ _ h => h) (by kernel_rfl) (by assumption) (by rfl) ?_ (fun hV => ?_)
        rotate_left 1
        · (intro wq; go_simp; try with_reducible rfl)
        clear hU; have hU := hV; clear hV
        try simp only [Act.put, aput]
        refine AnyU.take (i := 7) (v := ?_) rfl (by kernel_rfl) (by kernel_rfl) (by kernel_rfl) (fun _ _ _ h => h) (by kernel_rfl) (by assumption) (by rfl) ?_ (fun hV => ?_)
        rotate_left 1
        · (intro wq; go_simp; try with_reducible rfl)
        clear hU; have hU := hV; clear hV
        try simp only [Act.put, aput]
        refine AnyU.take (i := 8) (v := ?_) rfl (by kernel_rfl) (by kernel_rfl) (by kernel_rfl) (fun _ _ _ h => h) (by kernel_rfl) (by assumption) (by rfl) ?_ (fun hV => ?_)
        rotate_left 1
        · (intro wq; go_simp; try with_reducible rfl)
        clear hU; have hU := hV; clear hV
        try simp only [Act.put, aput]
        refine AnyU.take (i := 9) (v := ?_) rfl (by kernel_rfl) (by kernel_rfl) (by kernel_rfl) (fun _ _ _ h => h) (by kernel_rfl) (by assumption) (by rfl) ?_ (fun hV => ?_)
        rotate_left 1
        · (intro wq; go_simp; try with_reducible rfl)
        clear hU; have hU := hV; clear hV
        try simp only [Act.put, aput]
        refine AnyU.take (i := 10) (v := ?_) rfl (by kernel_rfl) (by kernel_rfl) (by kernel_rfl) (fun _ _ _ h => h) (by kernel_rfl) (by assumption) (by rfl) ?_ (fun hV => ?_)
        rotate_left 1
        · (intro wq; go_simp; try with_reducible rfl)
        clear hU; have hU := hV; clear hV
        try simp only [Act.put, aput]
        refine AnyU.take (i := 11) (v := ?_) rfl (by kernel_rfl) (by kernel_rfl) (by kernel_rfl) (fun _ _ _ h => h) (by kernel_rfl) (by assumption) (by rfl) ?_ (fun hV => ?_)
        rotate_left 1
        · (intro wq; go_simp; try with_reducible rfl)
        clear hU; have hU := hV; clear hV
        try simp only [Act.put, aput]
        refine AnyU.take (i := 12) (v := ?_) rfl (by kernel_rfl) (by kernel_rfl) (by kernel_rfl) (fun _ _ _ h => h) (by kernel_rfl) (by assumption) (by rfl) ?_ (fun hV => ?_)
        rotate_left 1
        · (intro wq; go_simp; try with_reducible rfl)
        clear hU; have hU := hV; clear hV
        try simp only [Act.put, aput]
        refine AnyU.take (i := 13) (v := ?_) rfl (by kernel_rfl) (by kernel_rfl) (by kernel_rfl) (fun _ _ _ h => h) (by kernel_rfl) (by assumption) (by rfl) ?_ (fun hV => ?_)
        rotate_left 1
        · (intro wq; go_simp; try with_reducible rfl)
        clear hU; have hU := hV; clear hV
        try simp only [Act.put, aput]
        refine AnyU.loadc (i := 14) (d := 25) [17, 18, 19, 20, 25] (Si := fun w' => w'.cell? ⟨b, o + (k - 1) * 8, none⟩ = some (.string q)) (v := ?_) rfl (by kernel_rfl) (by kernel_rfl) (by kernel_rfl) (fun _ _ _ h => h) (by kernel_rfl) (by assumption) (by kernel_rfl) rfl (by simp) (by rfl) ?_ (fun hV => ?_)
        rotate_left 1
        · (intro wq hq; go_simp; try with_reducible rfl)
        clear hU; have hU := hV; clear hV
        try simp only [Act.put, aput]
        refine AnyU.take (i := 15) (v := ?_) rfl (by kernel_rfl) (by kernel_rfl) (by kernel_rfl) (fun _ _ _ h => h) (by kernel_rfl) (by assumption) (by rfl) ?_ (fun hV => ?_)
        rotate_left 1
        · (intro wq; go_simp; try with_reducible rfl)
        clear hU; have hU := hV; clear hV
        try simp only [Act.put, aput]
        refine AnyU.loadc (i := 16) (d := 25) [17, 18, 19, 20, 25] (Si := fun w' => Blk w' bd #[.string n.name, .int .i64 n.ty.kind, .string n.ty.pkg, .int .i64 n.ty.major, .string n.ty.mod, .string n.ty.name, .slice na n.ty.names.length nc, .slice sa n.ty.subs.length sc] 57) (v := ?_) rfl (by kernel_rfl) (by kernel_rfl) (by kernel_rfl) (fun _ _ _ h => h) (by kernel_rfl) (by assumption) (by kernel_rfl) rfl (by simp) (by rfl) ?_ (fun hV => ?_)
        rotate_left 1
        · (intro wq hq; obtain ⟨u0, u1, u2, u3, u4, u5, u6, u7⟩ := cells8 hq; go_simp; try with_reducible rfl)
        clear hU; have hU := hV; clear hV
        try simp only [Act.put, aput]
        refine AnyU.take (i := 17) (v := ?_) rfl (by kernel_rfl) (by kernel_rfl) (by kernel_rfl) (fun _ _ _ h => h) (by kernel_rfl) (by assumption) (by rfl) ?_ (fun hV => ?_)
        rotate_left 1
        · (intro wq; go_simp; try with_reducible rfl)
        clear hU; have hU := hV; clear hV
        try simp only [Act.put, aput]
        refine AnyU.take (i := 18) (v := ?_) rfl (by kernel_rfl) (by kernel_rfl) (by kernel_rfl) (fun _ _ _ h => h) (by kernel_rfl) (by assumption) (by rfl) ?_ (fun hV => ?_)
        rotate_left 1
        · (intro wq; go_simp; try with_reducible rfl)
        clear hU; have hU := hV; clear hV
        try simp only [Act.put, aput]
        refine AnyU.take (i := 19) (v := ?_) rfl (by kernel_rfl) (by kernel_rfl) (by kernel_rfl) (fun _ _ _ h => h) (by kernel_rfl) (by assumption) (by rfl) ?_ (fun hV => ?_)
        rotate_left 1
        · (intro wq; go_simp; try with_reducible rfl)
        clear hU; have hU := hV; clear hV
        try simp only [Act.put, aput]
        refine AnyU.take (i := 20) (v := ?_) rfl (by kernel_rfl) (by kernel_rfl) (by kernel_rfl) (fun _ _ _ h => h) (by kernel_rfl) (by assumption) (by rfl) ?_ (fun hV => ?_)
        rotate_left 1
        · (intro wq; go_simp; try with_reducible rfl)
        clear hU; have hU := hV; clear hV
        try simp only [Act.put, aput]
        refine AnyU.take (i := 21) (v := ?_) rfl (by kernel_rfl) (by kernel_rfl) (by kernel_rfl) (fun _ _ _ h => h) (by kernel_rfl) (by assumption) (by rfl) ?_ (fun hV => ?_)
        rotate_left 1
        · (intro wq; go_simp; try with_reducible rfl)
        clear hU; have hU := hV; clear hV
        try simp only [Act.put, aput]
        refine AnyU.loadc (i := 22) (d := 23) [23] (Si := fun w' => Blk w' bd #[.string n.name, .int .i64 n.ty.kind, .string n.ty.pkg, .int .i64 n.ty.major, .string n.ty.mod, .string n.ty.name, .slice na n.ty.names.length nc, .slice sa n.ty.subs.length sc] 57) (v := ?_) rfl (by kernel_rfl) (by kernel_rfl) (by kernel_rfl) (fun _ _ _ h => h) (by kernel_rfl) (by assumption) (by kernel_rfl) rfl (by simp) (by rfl) ?_ (fun hV => ?_)
        rotate_left 1
        · (intro wq hq; obtain ⟨u0, u1, u2, u3, u4, u5, u6, u7⟩ := cells8 hq; go_simp; try with_reducible rfl)
        clear hU; have hU := hV; clear hV
        try simp only [Act.put, aput]
        refine AnyU.ready1 (i := 23) (by kernel_rfl) (AnyU.one rfl fun K hK => ?_)
        go_simp
        go_at_call 56
        refine (HC2.out _ (HTY.out.under (A3.out.mono hBW)) (Nat.le_trans hBW A3.out.size)).mono ?_
        rintro e w4 ⟨rfl, hb⟩
        have A4 := Lib.hid (A3.out.trans (hb.mono A3.out.size))
        have BD4 := Lib.hid (BD3.out.under hb BD3.out.lt)
        clear hb
        refine hK.out _ _ (Until.cons (fun h => absurd h (by decide)) (Until.cons (fun h => absurd h (by decide)) (Until.cons (fun _ => BD4.out) (Until.cons (fun _ => (A4.out.cell (p := ⟨b, _, none⟩) hbW).trans HCQ.out) Until.nil)))) (fun hV => ?_)
        clear hK K
        clear hU; have hU := hV; clear hV
        try simp only [Act.put, aput]
        refine AnyU.take (i := 24) (v := ?_) rfl (by kernel_rfl) (by kernel_rfl) (by kernel_rfl) (fun _ _ _ h => h) (by kernel_rfl) (by assumption) (by rfl) ?_ (fun hV => ?_)
        rotate_left 1
        · (intro wq; go_simp; try with_reducible rfl)
        clear hU; have hU := hV; clear hV
        try simp only [Act.put, aput]
        refine AnyU.ready1 (i := 25) (by kernel_rfl) (AnyU.one rfl fun K hK => ?_)
        go_simp
        refine hK.out _ _ (Until.off (by kernel_rfl)) (fun hV => ?_)
        clear hK K
        clear hU; have hU := hV; clear hV
        try simp only [Act.put, aput]
        refine AnyU.done (by kernel_rfl) ?_
        go_wp2_with fail
        exact ⟨⟨k + 1, by go_num, by omega, A4.out, fun i hi => by
          by_cases e : i = k
          · subst e; exact hok
          · exact HA.out i (by omega)⟩, by simp [intOf]; omega⟩
set_option maxRecDepth 100000 in
theorem namedGreat_c (l : List Nm) (A : Option Addr) (cap B : Nat) (w : World) (h : NmsAt w B A l) (hB : B ≤ w.heap.size) (hl : l.length ≤ maxLen) :
    Calls Tryz.prog 29 #[.slice A l.length cap, .func (.func 30) #[] #[]] w fun e w' => e = .returned (.bool (namedB greatB l)) ∧ Below w.heap.size w w' :=
  namedFn_c 30 greatB (by intro a w; rfl) (fun s w hs => great_b s w hs) l A cap B w h hB hl
set_option maxRecDepth 100000 in
theorem namedSmall_c (l : List Nm) (A : Option Addr) (cap B : Nat) (w : World) (h : NmsAt w B A l) (hB : B ≤ w.heap.size) (hl : l.length ≤ maxLen) :
    Calls Tryz.prog 29 #[.slice A l.length cap, .func (.func 23) #[] #[]] w fun e w' => e = .returned (.bool (namedB smallB l)) ∧ Below w.heap.size w w' :=
  namedFn_c 23 smallB (by intro a w; rfl) (fun s w hs => Small_c s w hs) l A cap B w h hB hl
end Go.Proofs.YtjeldfipipkfiaaGreat
namespace Go.Proofs.YtjeldfipipkfiaaGreat
open Go.RowKit
set_option linter.unusedSimpArgs false
set_option linter.unusedVariables false
set_option maxRecDepth 100000 in
set_option maxHeartbeats 40000000 in
theorem refNamedtrue_c (l : List Nm) (A : Option Addr) (cap B : Nat) (w : World) (h : NmsAt w B A l) (hB : B ≤ w.heap.size) (hl : l.length ≤ maxLen) (hf : fewN l = true) :
    Calls Tryz.prog 33 #[.slice A l.length cap, .bool true] w fun e w' => e = .returned (.bool (namedB greatB l)) ∧ Below w.heap.size w w' := by
  obtain ⟨R, hR⟩ : ∃ R, namedB greatB l = R := ⟨_, rfl⟩
  rw [hR]
  have HR := Lib.hid hR
  have H := Lib.hid h
  have HF := Lib.hid hf
  unfold maxLen at hl
  clear hR h hf
  go_enter Tryz.func33, Tryz.ntmps33
  go_wp2_with fail
  go_loopw [5] (fun iv wr => ∃ k : Nat, iv = .int .i64 k ∧ k ≤ l.length ∧ Below w.heap.size w wr ∧ ∀ i, i < k → nmOk greatB l i = true) (fun iv _ => l.length - (intOf iv).toNat)
  case atStart => exact ⟨0, rfl, Nat.zero_le _, Below.refl _ _, fun i hi => absurd hi (by omega)⟩
  case round =>
    obtain ⟨k, rfl, hk, hb1, hall⟩ := hrel
    have A1 := Lib.hid hb1
    have HA := Lib.hid hall
    clear hb1 hall
    by_cases hlt : k < l.length
    rotate_left
    · obtain rfl : k = l.length := by omega
      have hltI : ¬ (l.length : Int) < (l.length : Int) := by omega
      go_wp2_with fail
      go_ret
      exact ⟨ret_b (by rw [← HR.out, named_all HA.out]), A1.out⟩
    have hltI : (k : Int) < (l.length : Int) := by omega
    obtain ⟨n, hn⟩ : ∃ n, l[k] = n := ⟨_, rfl⟩
    obtain ⟨hns, b, o, na, nc, sa, sc, rfl, hbB, hty, c0, c1, c2, c3, c4, c5, c6, c7⟩ := H.out.elem hlt hn
    have hbW : b < w.heap.size := by omega
    have hfw : FewB n.ty = true := by
      have := List.all_eq_true.1 HF.out n (by rw [← hn]; exact List.getElem_mem hlt)
      exact this
    have hmany := few_many n.ty hfw
    have HTY := Lib.hid hty
    simp only [tyCells] at HTY
    have CC := Lib.hid (And.intro c0 (And.intro c1 (And.intro c2 (And.intro c3 (And.intro c4 (And.intro c5 (And.intro c6 c7)))))))
    have cells := fun (W : World) (hb : Below w.heap.size w W) => (show W.cell? ⟨b, o + k * 8, none⟩ = some (.string n.name) ∧ W.cell? ⟨b, o + k * 8 + 1, none⟩ = some (.int .i64 n.ty.kind) ∧ W.cell? ⟨b, o + k * 8 + 2, none⟩ = some (.string n.ty.pkg) ∧ W.cell? ⟨b, o + k * 8 + 3, none⟩ = some (.int .i64 n.ty.major) ∧ W.cell? ⟨b, o + k * 8 + 4, none⟩ = some (.string n.ty.mod) ∧ W.cell? ⟨b, o + k * 8 + 5, none⟩ = some (.string n.ty.name) ∧ W.cell? ⟨b, o + k * 8 + 6, none⟩ = some (.slice na n.ty.names.length nc) ∧ W.cell? ⟨b, o + k * 8 + 7, none⟩ = some (.slice sa n.ty.subs.length sc) from by
      obtain ⟨c0, c1, c2, c3, c4, c5, c6, c7⟩ := CC.out
      refine ⟨?_, ?_, ?_, ?_, ?_, ?_, ?_, ?_⟩
      all_goals (rw [hb.cell (p := ⟨b, _, none⟩) hbW]; assumption))
    have CELLS := Lib.hid cells
    have HC0 := Lib.hid (fun w => rGreat_c n.name w hns)
    have HC1 := Lib.hid (fun w => rSmall_c n.name w hns)
    have hC2 := fun w' ht hB' => rMay_c n.ty (tyCells n.ty na nc sa sc) B w' ht hB' (by omega)
    have hC3 := fun w' ht hB' => rPlain_c n.ty (tyCells n.ty na nc sa sc) B w' ht hB'
    obtain ⟨sg, hsg⟩ : ∃ s, greatB n.name = s := ⟨_, rfl⟩
    obtain ⟨ss, hss⟩ : ∃ s, smallB n.name = s := ⟨_, rfl⟩
    obtain ⟨my, hmy⟩ : ∃ s, mayT n.ty = s := ⟨_, rfl⟩
    obtain ⟨pl, hpl⟩ : ∃ s, plainT n.ty = s := ⟨_, rfl⟩
    have hdO : nmOk greatB l k = (sg && ((decide (k = 0) || ltB (l[k - 1]'(by omega)).name n.name) && (my && pl))) := by
      rw [nmOk, dif_pos hlt]
      simp only [hn, hsg, hss, PlainB, hmy, hpl]
    have HDO := Lib.hid hdO
    rw [hsg] at HC0
    rw [hss] at HC1
    simp only [tyCells, hmy] at hC2
    simp only [tyCells, hpl] at hC3
    have HC2 := Lib.hid hC2
    have HC3 := Lib.hid hC3
    clear hsg hss hmy hpl hdO hC2 hC3 hty hn c0 c1 c2 c3 c4 c5 c6 c7 cells hfw hmany
    obtain ⟨d0, d1, d2, d3, d4, d5, d6, d7⟩ := CELLS.out wr A1.out
    have hbR : b < wr.heap.size := Nat.lt_of_lt_of_le hbW A1.out.size
    go_upto_region 7 with (first
      | (go_at_call 60; refine (HC0.out _).mono ?_; rintro e w2 ⟨rfl, rfl⟩)
      | (go_at_call 32; refine (HC1.out _).mono ?_; rintro e w3 ⟨rfl, hb⟩; have A3 := Lib.hid (A1.out.trans (hb.mono A1.out.size)); clear hb d0 d1 d2 d3 d4 d5 d6 d7; obtain ⟨d0, d1, d2, d3, d4, d5, d6, d7⟩ := CELLS.out w3 A3.out; have hbR3 : b < w3.heap.size := Nat.lt_of_lt_of_le hbW A3.out.size)
      | (go_at_call 61; refine (HC2.out _ (HTY.out.under (A3.out.mono hB)) (Nat.le_trans hB A3.out.size)).mono ?_; rintro e w4 ⟨rfl, hb⟩; have A4 := Lib.hid (A3.out.trans (hb.mono A3.out.size)); clear hb d0 d1 d2 d3 d4 d5 d6 d7; obtain ⟨d0, d1, d2, d3, d4, d5, d6, d7⟩ := CELLS.out w4 A4.out; have hbR4 : b < w4.heap.size := Nat.lt_of_lt_of_le hbW A4.out.size))
    cases sg
    · as_aux_lemma =>
        have hbad := named_bad hlt (by rw [HDO.out]; rfl)
        rw [HR.out] at hbad
        subst hbad
        go_quiet (fail)
        go_wp2_with fail
        go_ret
        exact ⟨rfl, below_drewN A4.out _⟩
    cases my
    · as_aux_lemma =>
        have hbad := named_bad hlt (by rw [HDO.out]; simp)
        rw [HR.out] at hbad
        subst hbad
        go_quiet (fail)
        go_wp2_with fail
        go_ret
        exact ⟨rfl, below_drewN A4.out _⟩
    by_cases h0 : k = 0
    · subst h0
      cases pl
      · as_aux_lemma =>
          have hbad := named_bad hlt (by rw [HDO.out]; rfl)
          rw [HR.out] at hbad
          subst hbad
          go_quiet (fail)
          go_wp2_with (go_at_call 62; refine (HC3.out _ (HTY.out.under ((below_drewN A4.out _).mono hB)) (Nat.le_trans hB A4.out.size)).mono ?_; rintro e w6 ⟨rfl, hb⟩; have A6 := Lib.hid ((below_drewN A4.out _).trans (hb.mono A4.out.size)); clear hb)
          go_ret
          exact ⟨rfl, A6.out⟩
      · as_aux_lemma =>
          have hok : nmOk greatB l 0 = true := by rw [HDO.out]; rfl
          go_quiet (fail)
          go_wp2_with (go_at_call 62; refine (HC3.out _ (HTY.out.under ((below_drewN A4.out _).mono hB)) (Nat.le_trans hB A4.out.size)).mono ?_; rintro e w6 ⟨rfl, hb⟩; have A6 := Lib.hid ((below_drewN A4.out _).trans (hb.mono A4.out.size)); clear hb)
          exact ⟨⟨0 + 1, by go_num, by omega, A6.out, fun i hi => by obtain rfl : i = 0 := by omega
                                                                     exact hok⟩, by simp [intOf]; omega⟩
    have hk0I : (0 : Int) < (k : Int) := by omega
    have hk0D : decide (0 < k) = true := by simp; omega
    have hkB : ((k - 1 : Nat) : Int) < (l.length : Int) := by omega
    have hkB2 : k - 1 < l.length := by omega
    have hkw : IntKind.i64.wrap ((k - 1 : Nat) : Int) = ((k - 1 : Nat) : Int) := by rw [IntKind.wrap_i64]; omega
    have hkm : (k : Int) - 1 = ((k - 1 : Nat) : Int) := by omega
    obtain ⟨q, hq⟩ : ∃ q, (l[k - 1]'(by omega)).name = q := ⟨_, rfl⟩
    obtain ⟨-, b', o', -, -, -, -, e', -, -, hcq, -⟩ := H.out.elem hkB2 rfl
    injection e' with e'
    injection e' with e1 e2
    subst e1 e2
    rw [hq, ← A4.out.cell (p := ⟨b, _, none⟩) hbW] at hcq
    rw [hq] at HDO
    obtain ⟨lt, hlt2⟩ : ∃ x, ltB q n.name = x := ⟨_, rfl⟩
    rw [hlt2] at HDO
    have hle : (Op.bytesLess n.name.toList q.toList || n.name.toList == q.toList) = !lt := by rw [less_total, ← hlt2]; rfl
    clear hlt2 hq
    cases lt
    · as_aux_lemma =>
        have hbad := named_bad hlt (by rw [HDO.out]; simp [h0])
        rw [HR.out] at hbad
        subst hbad
        go_quiet (fail)
        go_wp2_with fail
        go_ret
        exact ⟨rfl, below_drewN A4.out _⟩
    cases pl
    · as_aux_lemma =>
        have hbad := named_bad hlt (by rw [HDO.out]; simp)
        rw [HR.out] at hbad
        subst hbad
        go_quiet (fail)
        go_wp2_with (go_at_call 62; refine (HC3.out _ (HTY.out.under ((below_drewN A4.out _).mono hB)) (Nat.le_trans hB A4.out.size)).mono ?_; rintro e w6 ⟨rfl, hb⟩; have A6 := Lib.hid ((below_drewN A4.out _).trans (hb.mono A4.out.size)); clear hb)
        go_ret
        exact ⟨rfl, A6.out⟩
    · as_aux_lemma =>
        have hok : nmOk greatB l k = true := by rw [HDO.out]; simp
        go_quiet (fail)
        go_wp2_with (go_at_call 62; refine (HC3.out _ (HTY.out.under ((below_drewN A4.out _).mono hB)) (Nat.le_trans hB A4.out.size)).mono ?_; rintro e w6 ⟨rfl, hb⟩; have A6 := Lib.hid ((below_drewN A4.out _).trans (hb.mono A4.out.size)); clear hb)
        exact ⟨⟨k + 1, by go_num, by omega, A6.out, fun i hi => by
          by_cases e : i = k
          · subst e; exact hok
          · exact HA.out i (by omega)⟩, by simp [intOf]; omega⟩
set_option maxRecDepth 100000 in
set_option maxHeartbeats 40000000 in
theorem refNamedfalse_c (l : List Nm) (A : Option Addr) (cap B : Nat) (w : World) (h : NmsAt w B A l) (hB : B ≤ w.heap.size) (hl : l.length ≤ maxLen) (hf : fewN l = true) :
    Calls Tryz.prog 33 #[.slice A l.length cap, .bool false] w fun e w' => e = .returned (.bool (namedB smallB l)) ∧ Below w.heap.size w w' := by
  obtain ⟨R, hR⟩ : ∃ R, namedB smallB l = R := ⟨_, rfl⟩
  rw [hR]
  have HR := Lib.hid hR
  have H := Lib.hid h
  have HF := Lib.hid hf
  unfold maxLen at hl
  clear hR h hf
  go_enter Tryz.func33, Tryz.ntmps33
  go_wp2_with fail
  go_loopw [5] (fun iv wr => ∃ k : Nat, iv = .int .i64 k ∧ k ≤ l.length ∧ Below w.heap.size w wr ∧ ∀ i, i < k → nmOk smallB l i = true) (fun iv _ => l.length - (intOf iv).toNat)
  case atStart => exact ⟨0, rfl, Nat.zero_le _, Below.refl _ _, fun i hi => absurd hi (by omega)⟩
  case round =>
    obtain ⟨k, rfl, hk, hb1, hall⟩ := hrel
    have A1 := Lib.hid hb1
    have HA := Lib.hid hall
    clear hb1 hall
    by_cases hlt : k < l.length
    rotate_left
    · obtain rfl : k = l.length := by omega
      have hltI : ¬ (l.length : Int) < (l.length : Int) := by omega
      go_wp2_with fail
      go_ret
      exact ⟨ret_b (by rw [← HR.out, named_all HA.out]), A1.out⟩
    have hltI : (k : Int) < (l.length : Int) := by omega
    obtain ⟨n, hn⟩ : ∃ n, l[k] = n := ⟨_, rfl⟩
    obtain ⟨hns, b, o, na, nc, sa, sc, rfl, hbB, hty, c0, c1, c2, c3, c4, c5, c6, c7⟩ := H.out.elem hlt hn
    have hbW : b < w.heap.size := by omega
    have hfw : FewB n.ty = true := by
      have := List.all_eq_true.1 HF.out n (by rw [← hn]; exact List.getElem_mem hlt)
      exact this
    have hmany := few_many n.ty hfw
    have HTY := Lib.hid hty
    simp only [tyCells] at HTY
    have CC := Lib.hid (And.intro c0 (And.intro c1 (And.intro c2 (And.intro c3 (And.intro c4 (And.intro c5 (And.intro c6 c7)))))))
    have cells := fun (W : World) (hb : Below w.heap.size w W) => (show W.cell? ⟨b, o + k * 8, none⟩ = some (.string n.name) ∧ W.cell? ⟨b, o + k * 8 + 1, none⟩ = some (.int .i64 n.ty.kind) ∧ W.cell? ⟨b, o + k * 8 + 2, none⟩ = some (.string n.ty.pkg) ∧ W.cell? ⟨b, o + k * 8 + 3, none⟩ = some (.int .i64 n.ty.major) ∧ W.cell? ⟨b, o + k * 8 + 4, none⟩ = some (.string n.ty.mod) ∧ W.cell? ⟨b, o + k * 8 + 5, none⟩ = some (.string n.ty.name) ∧ W.cell? ⟨b, o + k * 8 + 6, none⟩ = some (.slice na n.ty.names.length nc) ∧ W.cell? ⟨b, o + k * 8 + 7, none⟩ = some (.slice sa n.ty.subs.length sc) from by
      obtain ⟨c0, c1, c2, c3, c4, c5, c6, c7⟩ := CC.out
      refine ⟨?_, ?_, ?_, ?_, ?_, ?_, ?_, ?_⟩
      all_goals (rw [hb.cell (p := ⟨b, _, none⟩) hbW]; assumption))
    have CELLS := Lib.hid cells
    have HC0 := Lib.hid (fun w => rGreat_c n.name w hns)
    have HC1 := Lib.hid (fun w => rSmall_c n.name w hns)
    have hC2 := fun w' ht hB' => rMay_c n.ty (tyCells n.ty na nc sa sc) B w' ht hB' (by omega)
    have hC3 := fun w' ht hB' => rPlain_c n.ty (tyCells n.ty na nc sa sc) B w' ht hB'
    obtain ⟨sg, hsg⟩ : ∃ s, greatB n.name = s := ⟨_, rfl⟩
    obtain ⟨ss, hss⟩ : ∃ s, smallB n.name = s := ⟨_, rfl⟩
    obtain ⟨my, hmy⟩ : ∃ s, mayT n.ty = s := ⟨_, rfl⟩
    obtain ⟨pl, hpl⟩ : ∃ s, plainT n.ty = s := ⟨_, rfl⟩
    have hdO : nmOk smallB l k = (ss && ((decide (k = 0) || ltB (l[k - 1]'(by omega)).name n.name) && (my && pl))) := by
      rw [nmOk, dif_pos hlt]
      simp only [hn, hsg, hss, PlainB, hmy, hpl]
    have HDO := Lib.hid hdO
    rw [hsg] at HC0
    rw [hss] at HC1
    simp only [tyCells, hmy] at hC2
    simp only [tyCells, hpl] at hC3
    have HC2 := Lib.hid hC2
    have HC3 := Lib.hid hC3
    clear hsg hss hmy hpl hdO hC2 hC3 hty hn c0 c1 c2 c3 c4 c5 c6 c7 cells hfw hmany
    obtain ⟨d0, d1, d2, d3, d4, d5, d6, d7⟩ := CELLS.out wr A1.out
    have hbR : b < wr.heap.size := Nat.lt_of_lt_of_le hbW A1.out.size
    go_upto_region 7 with (first
      | (go_at_call 60; refine (HC0.out _).mono ?_; rintro e w2 ⟨rfl, rfl⟩)
      | (go_at_call 32; refine (HC1.out _).mono ?_; rintro e w3 ⟨rfl, hb⟩; have A3 := Lib.hid (A1.out.trans (hb.mono A1.out.size)); clear hb d0 d1 d2 d3 d4 d5 d6 d7; obtain ⟨d0, d1, d2, d3, d4, d5, d6, d7⟩ := CELLS.out w3 A3.out; have hbR3 : b < w3.heap.size := Nat.lt_of_lt_of_le hbW A3.out.size)
      | (go_at_call 61; refine (HC2.out _ (HTY.out.under (A3.out.mono hB)) (Nat.le_trans hB A3.out.size)).mono ?_; rintro e w4 ⟨rfl, hb⟩; have A4 := Lib.hid (A3.out.trans (hb.mono A3.out.size)); clear hb d0 d1 d2 d3 d4 d5 d6 d7; obtain ⟨d0, d1, d2, d3, d4, d5, d6, d7⟩ := CELLS.out w4 A4.out; have hbR4 : b < w4.heap.size := Nat.lt_of_lt_of_le hbW A4.out.size))
    cases ss
    · as_aux_lemma =>
        have hbad := named_bad hlt (by rw [HDO.out]; rfl)
        rw [HR.out] at hbad
        subst hbad
        go_quiet (fail)
        go_wp2_with fail
        go_ret
        exact ⟨rfl, below_drewN A4.out _⟩
    cases my
    · as_aux_lemma =>
        have hbad := named_bad hlt (by rw [HDO.out]; simp)
        rw [HR.out] at hbad
        subst hbad
        go_quiet (fail)
        go_wp2_with fail
        go_ret
        exact ⟨rfl, below_drewN A4.out _⟩
    by_cases h0 : k = 0
    · subst h0
      cases pl
      · as_aux_lemma =>
          have hbad := named_bad hlt (by rw [HDO.out]; rfl)
          rw [HR.out] at hbad
          subst hbad
          go_quiet (fail)
          go_wp2_with (go_at_call 62; refine (HC3.out _ (HTY.out.under ((below_drewN A4.out _).mono hB)) (Nat.le_trans hB A4.out.size)).mono ?_; rintro e w6 ⟨rfl, hb⟩; have A6 := Lib.hid ((below_drewN A4.out _).trans (hb.mono A4.out.size)); clear hb)
          go_ret
          exact ⟨rfl, A6.out⟩
      · as_aux_lemma =>
          have hok : nmOk smallB l 0 = true := by rw [HDO.out]; rfl
          go_quiet (fail)
          go_wp2_with (go_at_call 62; refine (HC3.out _ (HTY.out.under ((below_drewN A4.out _).mono hB)) (Nat.le_trans hB A4.out.size)).mono ?_; rintro e w6 ⟨rfl, hb⟩; have A6 := Lib.hid ((below_drewN A4.out _).trans (hb.mono A4.out.size)); clear hb)
          exact ⟨⟨0 + 1, by go_num, by omega, A6.out, fun i hi => by obtain rfl : i = 0 := by omega
                                                                     exact hok⟩, by simp [intOf]; omega⟩
    have hk0I : (0 : Int) < (k : Int) := by omega
    have hk0D : decide (0 < k) = true := by simp; omega
    have hkB : ((k - 1 : Nat) : Int) < (l.length : Int) := by omega
    have hkB2 : k - 1 < l.length := by omega
    have hkw : IntKind.i64.wrap ((k - 1 : Nat) : Int) = ((k - 1 : Nat) : Int) := by rw [IntKind.wrap_i64]; omega
    have hkm : (k : Int) - 1 = ((k - 1 : Nat) : Int) := by omega
    obtain ⟨q, hq⟩ : ∃ q, (l[k - 1]'(by omega)).name = q := ⟨_, rfl⟩
    obtain ⟨-, b', o', -, -, -, -, e', -, -, hcq, -⟩ := H.out.elem hkB2 rfl
    injection e' with e'
    injection e' with e1 e2
    subst e1 e2
    rw [hq, ← A4.out.cell (p := ⟨b, _, none⟩) hbW] at hcq
    rw [hq] at HDO
    obtain ⟨lt, hlt2⟩ : ∃ x, ltB q n.name = x := ⟨_, rfl⟩
    rw [hlt2] at HDO
    have hle : (Op.bytesLess n.name.toList q.toList || n.name.toList == q.toList) = !lt := by rw [less_total, ← hlt2]; rfl
    clear hlt2 hq
    cases lt
    · as_aux_lemma =>
        have hbad := named_bad hlt (by rw [HDO.out]; simp [h0])
        rw [HR.out] at hbad
        subst hbad
        go_quiet (fail)
        go_wp2_with fail
        go_ret
        exact ⟨rfl, below_drewN A4.out _⟩
    cases pl
    · as_aux_lemma =>
        have hbad := named_bad hlt (by rw [HDO.out]; simp)
        rw [HR.out] at hbad
        subst hbad
        go_quiet (fail)
        go_wp2_with (go_at_call 62; refine (HC3.out _ (HTY.out.under ((below_drewN A4.out _).mono hB)) (Nat.le_trans hB A4.out.size)).mono ?_; rintro e w6 ⟨rfl, hb⟩; have A6 := Lib.hid ((below_drewN A4.out _).trans (hb.mono A4.out.size)); clear hb)
        go_ret
        exact ⟨rfl, A6.out⟩
    · as_aux_lemma =>
        have hok : nmOk smallB l k = true := by rw [HDO.out]; simp
        go_quiet (fail)
        go_wp2_with (go_at_call 62; refine (HC3.out _ (HTY.out.under ((below_drewN A4.out _).mono hB)) (Nat.le_trans hB A4.out.size)).mono ?_; rintro e w6 ⟨rfl, hb⟩; have A6 := Lib.hid ((below_drewN A4.out _).trans (hb.mono A4.out.size)); clear hb)
        exact ⟨⟨k + 1, by go_num, by omega, A6.out, fun i hi => by
          by_cases e : i = k
          · subst e; exact hok
          · exact HA.out i (by omega)⟩, by simp [intOf]; omega⟩
end Go.Proofs.YtjeldfipipkfiaaGreat
namespace Go.Proofs.YtjeldfipipkfiaaGreat
open Go.RowKit
set_option linter.unusedSimpArgs false
set_option linter.unusedVariables false
def imayB (x : If) : Bool := smallB x.pkg && (smallB x.mod && (decide (1 ≤ x.major) && (decide (x.major ≤ 999999999) && (namedB greatB x.types && namedB smallB x.vals))))
theorem cells5 {w : World} {g : Nat} {T : TypeId} {x0 x1 x2 x3 x4 : Value} (h : Blk w g #[x0, x1, x2, x3, x4] T) :
    w.cell? ⟨g, 0, none⟩ = some x0 ∧ w.cell? ⟨g, 1, none⟩ = some x1 ∧ w.cell? ⟨g, 2, none⟩ = some x2 ∧ w.cell? ⟨g, 3, none⟩ = some x3 ∧ w.cell? ⟨g, 4, none⟩ = some x4 :=
  ⟨h.cell 0, h.cell 1, h.cell 2, h.cell 3, h.cell 4⟩
set_option maxRecDepth 100000 in
set_option maxHeartbeats 40000000 in
theorem ifMay_c (x : If) (ta : Option Addr) (tc : Nat) (va : Option Addr) (vc B : Nat) (w : World) (hf : IfFits x) (ht : NmsAt w B ta x.types) (hv : NmsAt w B va x.vals) (hB : B ≤ w.heap.size) :
    Calls Tryz.prog 12 #[.agg (ifCells x ta tc va vc)] w fun e w' => e = .returned (.bool (imayB x)) ∧ Below w.heap.size w w' := by
  have C1 := fun w => Small_c x.pkg w hf.pkg
  have C2 := fun w => Small_c x.mod w hf.mod
  have C3 := fun w h hB => namedGreat_c x.types ta tc B w h hB hf.types
  have C4 := fun w h hB => namedSmall_c x.vals va vc B w h hB hf.vals
  obtain ⟨s1, h1⟩ : ∃ s, smallB x.pkg = s := ⟨_, rfl⟩
  obtain ⟨s2, h2⟩ : ∃ s, smallB x.mod = s := ⟨_, rfl⟩
  obtain ⟨s3, h3⟩ : ∃ s, namedB greatB x.types = s := ⟨_, rfl⟩
  obtain ⟨s4, h4⟩ : ∃ s, namedB smallB x.vals = s := ⟨_, rfl⟩
  have hr : imayB x = (s1 && (s2 && (decide (1 ≤ x.major) && (decide (x.major ≤ 999999999) && (s3 && s4))))) := by rw [imayB, h1, h2, h3, h4]
  rw [hr]
  simp only [h1] at C1
  simp only [h2] at C2
  simp only [h3] at C3
  simp only [h4] at C4
  have H1 := Lib.hid C1
  have H2 := Lib.hid C2
  have H3 := Lib.hid C3
  have H4 := Lib.hid C4
  have HT := Lib.hid ht
  have HV := Lib.hid hv
  clear C1 C2 C3 C4 h1 h2 h3 h4 hr ht hv hf
  go_enter Tryz.func12, Tryz.ntmps12
  simp only [ifCells]
  go_upto_region 1 with fail
  have x0 := Lib.hid (Blk.new w #[.string x.pkg, .int .i64 x.major, .string x.mod, .slice ta x.types.length tc, .slice va x.vals.length vc] 33)
  have A0 := Lib.hid ((Below.refl w.heap.size w).alloc (Nat.le_refl _) (.cells #[.string x.pkg, .int .i64 x.major, .string x.mod, .slice ta x.types.length tc, .slice va x.vals.length vc] 33))
  generalize (w.alloc (.cells #[.string x.pkg, .int .i64 x.major, .string x.mod, .slice ta x.types.length tc, .slice va x.vals.length vc] 33)) = W at x0 A0 ⊢
  obtain ⟨k0, k1, k2, k3, k4⟩ := cells5 x0.out
  have lk := x0.out.lt
  have hmk : ∀ w1, Below W.heap.size W w1 → Below w.heap.size w w1 := fun w1 h => A0.out.trans (h.mono A0.out.size)
  have HMK := Lib.hid hmk
  clear hmk
  by_cases m1 : 1 ≤ x.major
  all_goals by_cases m2 : x.major ≤ 999999999
  all_goals try (exfalso; omega)
  all_goals
    cases s1 <;> cases s2 <;> cases s3
  all_goals
    go_wp2_with (first
      | (go_at_call 23; first
          | (have hno := A1; refine (H2.out _).mono ?_; rintro e w2 ⟨rfl, hb⟩; have A2 := Lib.hid (A1.out.trans (hb.mono A1.out.size)); clear hb k0 k1 k2 k3 k4 lk hno; obtain ⟨k0, k1, k2, k3, k4⟩ := cells5 (x0.out.under A2.out x0.out.lt); have lk := (x0.out.under A2.out x0.out.lt).lt)
          | (refine (H1.out _).mono ?_; rintro e w1 ⟨rfl, hb⟩; have A1 := Lib.hid hb; clear hb k0 k1 k2 k3 k4 lk; obtain ⟨k0, k1, k2, k3, k4⟩ := cells5 (x0.out.under A1.out x0.out.lt); have lk := (x0.out.under A1.out x0.out.lt).lt))
      | (go_at_call 29; first
          | (have hno := A3; refine (H4.out _ (HV.out.under ((HMK.out _ A3.out).mono hB)) (Nat.le_trans hB (HMK.out _ A3.out).size)).mono ?_; rintro e w4 ⟨rfl, hb⟩; have A4 := Lib.hid (A3.out.trans (hb.mono A3.out.size)); clear hb k0 k1 k2 k3 k4 lk hno)
          | (refine (H3.out _ (HT.out.under ((HMK.out _ A2.out).mono hB)) (Nat.le_trans hB (HMK.out _ A2.out).size)).mono ?_; rintro e w3 ⟨rfl, hb⟩; have A3 := Lib.hid (A2.out.trans (hb.mono A2.out.size)); clear hb k0 k1 k2 k3 k4 lk; obtain ⟨k0, k1, k2, k3, k4⟩ := cells5 (x0.out.under A3.out x0.out.lt); have lk := (x0.out.under A3.out x0.out.lt).lt)))
    all_goals
      go_ret
      first
      | (refine ⟨ret_b ?_, HMK.out _ A4.out⟩; first | (simp [m1, m2]; done) | (simp [m1, m2]; omega) | (simp; omega))
      | (refine ⟨ret_b ?_, HMK.out _ A3.out⟩; first | (simp [m1, m2]; done) | (simp [m1, m2]; omega) | (simp; omega))
      | (refine ⟨ret_b ?_, HMK.out _ A2.out⟩; first | (simp [m1, m2]; done) | (simp [m1, m2]; omega) | (simp; omega))
      | (refine ⟨ret_b ?_, HMK.out _ A1.out⟩; first | (simp [m1, m2]; done) | (simp [m1, m2]; omega) | (simp; omega))
set_option maxRecDepth 100000 in
set_option maxHeartbeats 40000000 in
theorem refIfMay_c (x : If) (ta : Option Addr) (tc : Nat) (va : Option Addr) (vc B : Nat) (w : World) (hf : IfFits x) (ht : NmsAt w B ta x.types) (hv : NmsAt w B va x.vals) (hB : B ≤ w.heap.size) (hfx : fewX x = true) :
    Calls Tryz.prog 14 #[.agg (ifCells x ta tc va vc)] w fun e w' => e = .returned (.bool (imayB x)) ∧ Below w.heap.size w w' := by
  simp only [fewX, Bool.and_eq_true] at hfx
  have C1 := fun w => rSmall_c x.pkg w hf.pkg
  have C2 := fun w => rSmall_c x.mod w hf.mod
  have C3 := fun w h hB => refNamedtrue_c x.types ta tc B w h hB hf.types hfx.2.2.1
  have C4 := fun w h hB => refNamedfalse_c x.vals va vc B w h hB hf.vals hfx.2.2.2
  obtain ⟨s1, h1⟩ : ∃ s, smallB x.pkg = s := ⟨_, rfl⟩
  obtain ⟨s2, h2⟩ : ∃ s, smallB x.mod = s := ⟨_, rfl⟩
  obtain ⟨s3, h3⟩ : ∃ s, namedB greatB x.types = s := ⟨_, rfl⟩
  obtain ⟨s4, h4⟩ : ∃ s, namedB smallB x.vals = s := ⟨_, rfl⟩
  have hr : imayB x = (s1 && (s2 && (decide (1 ≤ x.major) && (decide (x.major ≤ 999999999) && (s3 && s4))))) := by rw [imayB, h1, h2, h3, h4]
  rw [hr]
  simp only [h1] at C1
  simp only [h2] at C2
  simp only [h3] at C3
  simp only [h4] at C4
  have H1 := Lib.hid C1
  have H2 := Lib.hid C2
  have H3 := Lib.hid C3
  have H4 := Lib.hid C4
  have HT := Lib.hid ht
  have HV := Lib.hid hv
  clear C1 C2 C3 C4 h1 h2 h3 h4 hr ht hv hf hfx
  go_enter Tryz.func14, Tryz.ntmps14
  simp only [ifCells]
  go_upto_region 1 with fail
  have x0 := Lib.hid (Blk.new w #[.string x.pkg, .int .i64 x.major, .string x.mod, .slice ta x.types.length tc, .slice va x.vals.length vc] 33)
  have A0 := Lib.hid ((Below.refl w.heap.size w).alloc (Nat.le_refl _) (.cells #[.string x.pkg, .int .i64 x.major, .string x.mod, .slice ta x.types.length tc, .slice va x.vals.length vc] 33))
  generalize (w.alloc (.cells #[.string x.pkg, .int .i64 x.major, .string x.mod, .slice ta x.types.length tc, .slice va x.vals.length vc] 33)) = W at x0 A0 ⊢
  obtain ⟨k0, k1, k2, k3, k4⟩ := cells5 x0.out
  have lk := x0.out.lt
  have hmk : ∀ w1, Below W.heap.size W w1 → Below w.heap.size w w1 := fun w1 h => A0.out.trans (h.mono A0.out.size)
  have HMK := Lib.hid hmk
  clear hmk
  by_cases m1 : 1 ≤ x.major
  all_goals by_cases m2 : x.major ≤ 999999999
  all_goals try (exfalso; omega)
  all_goals
    cases s1 <;> cases s2 <;> cases s3 <;> cases s4
  all_goals
    go_wp2_with (first
      | (go_at_call 32; first
          | (have hno := A1; refine (H2.out _).mono ?_; rintro e w2 ⟨rfl, hb⟩; have A2 := Lib.hid (A1.out.trans (hb.mono A1.out.size)); clear hb k0 k1 k2 k3 k4 lk hno; obtain ⟨k0, k1, k2, k3, k4⟩ := cells5 (x0.out.under A2.out x0.out.lt); have lk := (x0.out.under A2.out x0.out.lt).lt)
          | (refine (H1.out _).mono ?_; rintro e w1 ⟨rfl, hb⟩; have A1 := Lib.hid hb; clear hb k0 k1 k2 k3 k4 lk; obtain ⟨k0, k1, k2, k3, k4⟩ := cells5 (x0.out.under A1.out x0.out.lt); have lk := (x0.out.under A1.out x0.out.lt).lt))
      | (go_at_call 33; first
          | (have hno := A3; refine (H4.out _ (HV.out.under ((HMK.out _ A3.out).mono hB)) (Nat.le_trans hB (HMK.out _ A3.out).size)).mono ?_; rintro e w4 ⟨rfl, hb⟩; have A4 := Lib.hid (A3.out.trans (hb.mono A3.out.size)); clear hb k0 k1 k2 k3 k4 lk hno; obtain ⟨k0, k1, k2, k3, k4⟩ := cells5 (x0.out.under A4.out x0.out.lt); have lk := (x0.out.under A4.out x0.out.lt).lt)
          | (refine (H3.out _ (HT.out.under ((HMK.out _ A2.out).mono hB)) (Nat.le_trans hB (HMK.out _ A2.out).size)).mono ?_; rintro e w3 ⟨rfl, hb⟩; have A3 := Lib.hid (A2.out.trans (hb.mono A2.out.size)); clear hb k0 k1 k2 k3 k4 lk; obtain ⟨k0, k1, k2, k3, k4⟩ := cells5 (x0.out.under A3.out x0.out.lt); have lk := (x0.out.under A3.out x0.out.lt).lt)))
    all_goals
      go_ret
      refine ⟨ret_b ?_, HMK.out _ A4.out⟩
      first | (simp [m1, m2]; done) | (simp [m1, m2]; omega) | (simp; omega)
end Go.Proofs.YtjeldfipipkfiaaGreat
namespace Go.Proofs.YtjeldfipipkfiaaGreat
open Go.RowKit
set_option linter.unusedSimpArgs false
set_option linter.unusedVariables false
set_option maxRecDepth 100000 in
set_option maxHeartbeats 40000000 in
theorem refSamN_c (l m : List Nm) (A A' : Option Addr) (c c' B : Nat) (w : World) (h : NmsAt w B A l) (h' : NmsAt w B A' m) (hB : B ≤ w.heap.size) (hl : l.length ≤ maxLen) :
    Calls Tryz.prog 31 #[.slice A l.length c, .slice A' m.length c'] w fun e w' => e = .returned (.bool (sameN l m)) ∧ Below w.heap.size w w' := by
  have H := Lib.hid h
  have H' := Lib.hid h'
  clear h h'
  unfold maxLen at hl
  go_enter Tryz.func31, Tryz.ntmps31
  by_cases hlen : l.length = m.length
  · rw [← hlen]
    have HLEN := Lib.hid hlen
    clear hlen
    go_wp2_with fail
    go_loopw [5] (fun iv wr => ∃ k : Nat, iv = .int .i64 k ∧ k ≤ l.length ∧ sameN (l.drop k) (m.drop k) = sameN l m ∧ Below w.heap.size w wr) (fun iv _ => l.length - (intOf iv).toNat)
    case atStart => exact ⟨0, rfl, Nat.zero_le _, rfl, Below.refl _ _⟩
    case round =>
      rename World => wr
      obtain ⟨k, rfl, hk, hs, hbr⟩ := hrel
      have HS := Lib.hid hs
      have BR := Lib.hid hbr
      clear hs hbr
      have hk0 : (0 : Int) ≤ (k : Int) := by omega
      by_cases hlt : k < l.length
      · have hltm : k < m.length := by have := HLEN.out; omega
        obtain ⟨n, hn⟩ : ∃ n, l[k] = n := ⟨_, rfl⟩
        obtain ⟨n2, hn2⟩ : ∃ n, m[k] = n := ⟨_, rfl⟩
        have hsz := BR.out.size
        obtain ⟨-, b, o, na1, nc1, sa1, sc1, hA, hbl, ht1, c0, c1, c2, c3, c4, c5, c6, c7⟩ := (H.out.under (BR.out.mono hB)).elem hlt hn
        obtain ⟨-, b2, o2, na2, nc2, sa2, sc2, hA2, hbl2, ht2, d0, d1, d2, d3, d4, d5, d6, d7⟩ := (H'.out.under (BR.out.mono hB)).elem hltm hn2
        obtain rfl := hA
        obtain rfl := hA2
        have hltI : (k : Int) < (l.length : Int) := by omega
        have lb : b < wr.heap.size := by omega
        have lb2 : b2 < wr.heap.size := by omega
        have hBr : B ≤ wr.heap.size := by omega
        have hc := fun W2 (hb : Below wr.heap.size wr W2) => rSame_c n.ty n2.ty _ _ B W2 (ht1.under (hb.mono hBr)) (ht2.under (hb.mono hBr)) (Nat.le_trans hBr hb.size)
        simp only [tyCells] at hc
        have HC := Lib.hid hc
        have hd := sameN_drop hlt hltm
        rw [hn, hn2, HS.out] at hd
        have HD := Lib.hid hd
        clear hn hn2 hsz hc ht1 ht2 hd
        obtain ⟨q, hq⟩ : ∃ q, alikeT n.ty n2.ty = q := ⟨_, rfl⟩
        rw [hq] at HD
        simp only [hq] at HC
        clear hq
        go_upto_region 6 with fail
        go_cut [6] (fun v w2 => v = .bool q ∧ Below wr.heap.size wr w2)
        case first =>
          refine wp_region_until [(10, fun w' => w'.cell? ⟨b, o + k * 8 + 1, none⟩ = some (.int .i64 n.ty.kind) ∧ w'.cell? ⟨b, o + k * 8 + 2, none⟩ = some (.string n.ty.pkg) ∧ w'.cell? ⟨b, o + k * 8 + 3, none⟩ = some (.int .i64 n.ty.major) ∧ w'.cell? ⟨b, o + k * 8 + 4, none⟩ = some (.string n.ty.mod) ∧ w'.cell? ⟨b, o + k * 8 + 5, none⟩ = some (.string n.ty.name) ∧ w'.cell? ⟨b, o + k * 8 + 6, none⟩ = some (.slice na1 n.ty.names.length nc1) ∧ w'.cell? ⟨b, o + k * 8 + 7, none⟩ = some (.slice sa1 n.ty.subs.length sc1) ∧ w'.cell? ⟨b2, o2 + k * 8 + 1, none⟩ = some (.int .i64 n2.ty.kind) ∧ w'.cell? ⟨b2, o2 + k * 8 + 2, none⟩ = some (.string n2.ty.pkg) ∧ w'.cell? ⟨b2, o2 + k * 8 + 3, none⟩ = some (.int .i64 n2.ty.major) ∧ w'.cell? ⟨b2, o2 + k * 8 + 4, none⟩ = some (.string n2.ty.mod) ∧ w'.cell? ⟨b2, o2 + k * 8 + 5, none⟩ = some (.string n2.ty.name) ∧ w'.cell? ⟨b2, o2 + k * 8 + 6, none⟩ = some (.slice na2 n2.ty.names.length nc2) ∧ w'.cell? ⟨b2, o2 + k * 8 + 7, none⟩ = some (.slice sa2 n2.ty.subs.length sc2))] (by kernel_rfl) (Until.cons (fun _ => ⟨c1, c2, c3, c4, c5, c6, c7, d1, d2, d3, d4, d5, d6, d7⟩) Until.nil) (fun hU => ?_)
          refine AnyU.take (i := 0) (v := ?_) rfl (by kernel_rfl) (by kernel_rfl) (by kernel_rfl) (fun _ _ _ h => h) (by kernel_rfl) (by assumption) (by rfl) ?_ (fun hV => ?_)
          rotate_left 1
          · (intro wq; go_simp; try with_reducible rfl)
          clear hU; have hU := hV; clear hV
          try simp only [Act.put, aput]
          refine AnyU.take (i := 1) (v := ?_) rfl (by kernel_rfl) (by kernel_rfl) (by kernel_rfl) (fun _ _ _ h => h) (by kernel_rfl) (by assumption) (by rfl) ?_ (fun hV => ?_)
          rotate_left 1
          · (intro wq; go_simp; try with_reducible rfl)
          clear hU; have hU := hV; clear hV
          try simp only [Act.put, aput]
          refine AnyU.take (i := 2) (v := ?_) rfl (by kernel_rfl) (by kernel_rfl) (by kernel_rfl) (fun _ _ _ h => h) (by kernel_rfl) (by assumption) (by rfl) ?_ (fun hV => ?_)
          rotate_left 1
          · (intro wq; go_simp; try with_reducible rfl)
          clear hU; have hU := hV; clear hV
          try simp only [Act.put, aput]
          refine AnyU.take (i := 3) (v := ?_) rfl (by kernel_rfl) (by kernel_rfl) (by kernel_rfl) (fun _ _ _ h => h) (by kernel_rfl) (by assumption) (by rfl) ?_ (fun hV => ?_)
          rotate_left 1
          · (intro wq; go_simp; try with_reducible rfl)
          clear hU; have hU := hV; clear hV
          try simp only [Act.put, aput]
          refine AnyU.loadc (i := 4) (d := 10) [10] (Si := fun w' => w'.cell? ⟨b, o + k * 8 + 1, none⟩ = some (.int .i64 n.ty.kind) ∧ w'.cell? ⟨b, o + k * 8 + 2, none⟩ = some (.string n.ty.pkg) ∧ w'.cell? ⟨b, o + k * 8 + 3, none⟩ = some (.int .i64 n.ty.major) ∧ w'.cell? ⟨b, o + k * 8 + 4, none⟩ = some (.string n.ty.mod) ∧ w'.cell? ⟨b, o + k * 8 + 5, none⟩ = some (.string n.ty.name) ∧ w'.cell? ⟨b, o + k * 8 + 6, none⟩ = some (.slice na1 n.ty.names.length nc1) ∧ w'.cell? ⟨b, o + k * 8 + 7, none⟩ = some (.slice sa1 n.ty.subs.length sc1) ∧ w'.cell? ⟨b2, o2 + k * 8 + 1, none⟩ = some (.int .i64 n2.ty.kind) ∧ w'.cell? ⟨b2, o2 + k * 8 + 2, none⟩ = some (.string n2.ty.pkg) ∧ w'.cell? ⟨b2, o2 + k * 8 + 3, none⟩ = some (.int .i64 n2.ty.major) ∧ w'.cell? ⟨b2, o2 + k * 8 + 4, none⟩ = some (.string n2.ty.mod) ∧ w'.cell? ⟨b2, o2 + k * 8 + 5, none⟩ = some (.string n2.ty.name) ∧ w'.cell? ⟨b2, o2 + k * 8 + 6, none⟩ = some (.slice na2 n2.ty.names.length nc2) ∧ w'.cell? ⟨b2, o2 + k * 8 + 7, none⟩ = some (.slice sa2 n2.ty.subs.length sc2)) (v := ?_) rfl (by kernel_rfl) (by kernel_rfl) (by kernel_rfl) (fun _ _ _ h => h) (by kernel_rfl) (by assumption) (by kernel_rfl) rfl (by simp) (by rfl) ?_ (fun hV => ?_)
          rotate_left 1
          · (intro wq hq; obtain ⟨u0, u1, u2, u3, u4, u5, u6, -, -, -, -, -, -, -⟩ := hq; go_simp; try with_reducible rfl)
          clear hU; have hU := hV; clear hV
          try simp only [Act.put, aput]
          refine AnyU.take (i := 5) (v := ?_) rfl (by kernel_rfl) (by kernel_rfl) (by kernel_rfl) (fun _ _ _ h => h) (by kernel_rfl) (by assumption) (by rfl) ?_ (fun hV => ?_)
          rotate_left 1
          · (intro wq; go_simp; try with_reducible rfl)
          clear hU; have hU := hV; clear hV
          try simp only [Act.put, aput]
          refine AnyU.take (i := 6) (v := ?_) rfl (by kernel_rfl) (by kernel_rfl) (by kernel_rfl) (fun _ _ _ h => h) (by kernel_rfl) (by assumption) (by rfl) ?_ (fun hV => ?_)
          rotate_left 1
          · (intro wq; go_simp; try with_reducible rfl)
          clear hU; have hU := hV; clear hV
          try simp only [Act.put, aput]
          refine AnyU.take (i := 7) (v := ?_) rfl (by kernel_rfl) (by kernel_rfl) (by kernel_rfl) (fun _ _ _ h => h) (by kernel_rfl) (by assumption) (by rfl) ?_ (fun hV => ?_)
          rotate_left 1
          · (intro wq; go_simp; try with_reducible rfl)
          clear hU; have hU := hV; clear hV
          try simp only [Act.put, aput]
          refine AnyU.take (i := 8) (v := ?_) rfl (by kernel_rfl) (by kernel_rfl) (by kernel_rfl) (fun _ _ _ h => h) (by kernel_rfl) (by assumption) (by rfl) ?_ (fun hV => ?_)
          rotate_left 1
          · (intro wq; go_simp; try with_reducible rfl)
          clear hU; have hU := hV; clear hV
          try simp only [Act.put, aput]
          refine AnyU.loadc (i := 9) (d := 10) [10] (Si := fun w' => w'.cell? ⟨b, o + k * 8 + 1, none⟩ = some (.int .i64 n.ty.kind) ∧ w'.cell? ⟨b, o + k * 8 + 2, none⟩ = some (.string n.ty.pkg) ∧ w'.cell? ⟨b, o + k * 8 + 3, none⟩ = some (.int .i64 n.ty.major) ∧ w'.cell? ⟨b, o + k * 8 + 4, none⟩ = some (.string n.ty.mod) ∧ w'.cell? ⟨b, o + k * 8 + 5, none⟩ = some (.string n.ty.name) ∧ w'.cell? ⟨b, o + k * 8 + 6, none⟩ = some (.slice na1 n.ty.names.length nc1) ∧ w'.cell? ⟨b, o + k * 8 + 7, none⟩ = some (.slice sa1 n.ty.subs.length sc1) ∧ w'.cell? ⟨b2, o2 + k * 8 + 1, none⟩ = some (.int .i64 n2.ty.kind) ∧ w'.cell? ⟨b2, o2 + k * 8 + 2, none⟩ = some (.string n2.ty.pkg) ∧ w'.cell? ⟨b2, o2 + k * 8 + 3, none⟩ = some (.int .i64 n2.ty.major) ∧ w'.cell? ⟨b2, o2 + k * 8 + 4, none⟩ = some (.string n2.ty.mod) ∧ w'.cell? ⟨b2, o2 + k * 8 + 5, none⟩ = some (.string n2.ty.name) ∧ w'.cell? ⟨b2, o2 + k * 8 + 6, none⟩ = some (.slice na2 n2.ty.names.length nc2) ∧ w'.cell? ⟨b2, o2 + k * 8 + 7, none⟩ = some (.slice sa2 n2.ty.subs.length sc2)) (v := ?_) rfl (by kernel_rfl) (by kernel_rfl) (by kernel_rfl) (fun _ _ _ h => h) (by kernel_rfl) (by assumption) (by kernel_rfl) rfl (by simp) (by rfl) ?_ (fun hV => ?_)
          rotate_left 1
          · (intro wq hq; obtain ⟨-, -, -, -, -, -, -, u7, u8, u9, u10, u11, u12, u13⟩ := hq; go_simp; try with_reducible rfl)
          clear hU; have hU := hV; clear hV
          try simp only [Act.put, aput]
          refine AnyU.ready1 (i := 10) (by kernel_rfl) (AnyU.one rfl fun K hK => ?_)
          go_simp
          go_at_call 28
          refine (HC.out wr.drew (Below.refl _ _).drew).mono ?_
          rintro e w2 ⟨rfl, hb⟩
          have hb2 : Below wr.heap.size wr w2 := (Below.refl _ _).drew.trans hb
          clear hb
          refine hK.out _ _ (Until.offT (by kernel_rfl)) (fun hV => ?_)
          clear hK K
          clear hU; have hU := hV; clear hV
          try simp only [Act.put, aput]
          refine AnyU.ready1 (i := 11) (by kernel_rfl) (AnyU.one rfl fun K hK => ?_)
          go_simp
          refine hK.out _ _ (Until.offT (by kernel_rfl)) (fun hV => ?_)
          clear hK K
          clear hU; have hU := hV; clear hV
          try simp only [Act.put, aput]
          refine AnyU.done (by kernel_rfl) ?_
          go_wp2_with fail
          go_meet
          exact ⟨rfl, hb2⟩
        case rest =>
          rename World => w2
          obtain ⟨rfl, hb2⟩ := hcut
          have c0 := (hb2.cell (p := ⟨b, o + k * 8, none⟩) lb).trans c0
          have d0 := (hb2.cell (p := ⟨b2, o2 + k * 8, none⟩) lb2).trans d0
          have lb : b < w2.heap.size := by have := hb2.size; omega
          have lb2 : b2 < w2.heap.size := by have := hb2.size; omega
          have B2 := Lib.hid (BR.out.trans (hb2.mono BR.out.size))
          go_upto_region 7 with fail
          clear hb2 c1 c2 c3 c4 c5 c6 c7 d1 d2 d3 d4 d5 d6 d7 HC
          by_cases hx : n.name = n2.name
          · have hqn := ba_yes hx
            have HX := Lib.hid hx
            clear hx
            cases q
            · go_quiet (fail)
              go_wp2_with fail
              go_ret
              exact ⟨ret_b (show false = sameN l m by have := HD.out; rw [hqn, Bool.false_and, Bool.and_false] at this; exact this.symm), below_drewN B2.out _⟩
            · have HN := Lib.hid (show sameN (l.drop (k + 1)) (m.drop (k + 1)) = sameN l m by have := HD.out; rw [hqn, Bool.true_and, Bool.true_and] at this; exact this.symm)
              go_quiet (fail)
              go_wp2_with fail
              first
                | exact ⟨⟨k + 1, by go_num, by omega, HN.out, below_drewN B2.out _⟩, by simp [intOf]; omega⟩
                | (go_roundw
                   case rel => exact ⟨k + 1, by go_num, by omega, HN.out, below_drewN B2.out _⟩
                   case measure => simp [intOf]; omega)
          · have hqn := ba_no hx
            have HX := Lib.hid hx
            clear hx
            have HN := Lib.hid (show sameN l m = false by have := HD.out; rwa [hqn, Bool.false_and] at this)
            cases q <;> (go_quiet (fail); go_wp2_with fail; go_ret; exact ⟨ret_b HN.out.symm, below_drewN B2.out _⟩)
      · obtain rfl : k = l.length := by omega
        have hltI : ¬ (l.length : Int) < (l.length : Int) := by omega
        go_wp2_with fail
        go_ret
        exact ⟨ret_b (show true = sameN l m by rw [← HS.out, List.drop_length, HLEN.out, List.drop_length]; rfl), BR.out⟩
  · have hne : ¬ (l.length : Int) = (m.length : Int) := by omega
    have hneb : ((l.length : Int) == (m.length : Int)) = false := by simpa using hne
    go_wp2_with fail
    go_ret
    exact ⟨ret_b (sameN_len hlen).symm, Below.refl _ _⟩
theorem twoI (w : World) (C D : Array Value) (S T : TypeId) : Blk ((w.alloc (.cells C S)).alloc (.cells D T)) w.heap.size C S ∧ Blk ((w.alloc (.cells C S)).alloc (.cells D T)) (w.heap.size + 1) D T ∧ ((w.alloc (.cells C S)).alloc (.cells D T)).heap.size = w.heap.size + 1 + 1 ∧ Below w.heap.size w ((w.alloc (.cells C S)).alloc (.cells D T)) := by
  have z1 : (w.alloc (.cells C S)).heap.size = w.heap.size + 1 := by simp
  have b1 := Blk.new (w.alloc (.cells C S)) D T
  rw [z1] at b1
  exact ⟨(Blk.new w C S).alloc _, b1, by simp, ((Below.refl w.heap.size w).alloc (Nat.le_refl _) _).alloc (by simp) _⟩
theorem twoIX (w : World) (C D : Array Value) (S T : TypeId)  : ∃ W, W = ((w.alloc (.cells C S)).alloc (.cells D T)) ∧ Blk W w.heap.size C S ∧ Blk W (w.heap.size + 1) D T ∧ W.heap.size = w.heap.size + 1 + 1 ∧ Below w.heap.size w W :=
  ⟨_, rfl, twoI w C D S T⟩
set_option maxRecDepth 100000 in
set_option maxHeartbeats 40000000 in
theorem refSamI_c (x y : If) (ta : Option Addr) (tc : Nat) (va : Option Addr) (vc : Nat) (ta' : Option Addr) (tc' : Nat) (va' : Option Addr) (vc' B : Nat) (w : World) (hf : IfFits x) (ht : NmsAt w B ta x.types) (hv : NmsAt w B va x.vals) (ht' : NmsAt w B ta' y.types) (hv' : NmsAt w B va' y.vals) (hB : B ≤ w.heap.size) :
    Calls Tryz.prog 13 #[.agg (ifCells x ta tc va vc), .agg (ifCells y ta' tc' va' vc')] w fun e w' => e = .returned (.bool (sameI x y)) ∧ Below w.heap.size w w' := by
  have HT := Lib.hid (fun W (hb : Below w.heap.size w W) => refSamN_c x.types y.types ta ta' tc tc' B W (ht.under (hb.mono hB)) (ht'.under (hb.mono hB)) (Nat.le_trans hB hb.size) hf.types)
  have HV := Lib.hid (fun W (hb : Below w.heap.size w W) => refSamN_c x.vals y.vals va va' vc vc' B W (hv.under (hb.mono hB)) (hv'.under (hb.mono hB)) (Nat.le_trans hB hb.size) hf.vals)
  obtain ⟨q1, h1⟩ : ∃ q, (x.pkg.toList == y.pkg.toList) = q := ⟨_, rfl⟩
  obtain ⟨q2, h2⟩ : ∃ q, (x.major == y.major) = q := ⟨_, rfl⟩
  obtain ⟨q3, h3⟩ : ∃ q, (x.mod.toList == y.mod.toList) = q := ⟨_, rfl⟩
  obtain ⟨q4, h4⟩ : ∃ q, sameN x.types y.types = q := ⟨_, rfl⟩
  obtain ⟨q5, h5⟩ : ∃ q, sameN x.vals y.vals = q := ⟨_, rfl⟩
  have hr : sameI x y = (q1 && (q2 && (q3 && (q4 && q5)))) := by rw [sameI, h1, h2, h3, h4, h5]
  rw [hr]
  simp only [h4] at HT
  simp only [h5] at HV
  clear h4 h5 hr ht hv ht' hv' hf
  go_enter Tryz.func13, Tryz.ntmps13
  simp only [ifCells]
  go_upto_region 1 with fail
  obtain ⟨W, hWq, d0, d1, hz, hb⟩ := twoIX w #[.string x.pkg, .int .i64 x.major, .string x.mod, .slice ta x.types.length tc, .slice va x.vals.length vc] #[.string y.pkg, .int .i64 y.major, .string y.mod, .slice ta' y.types.length tc', .slice va' y.vals.length vc'] 33 33
  rewrite [← hWq]; clear hWq
  have BC := Lib.hid hb
  have D0 := Lib.hid d0
  have D1 := Lib.hid d1
  clear hb d0 d1 hz
  obtain ⟨e0, e1, e2, e3, e4⟩ := cells5 D0.out
  have el := D0.out.lt
  obtain ⟨o0, o1, o2, o3, o4⟩ := cells5 D1.out
  have ol := D1.out.lt
  cases q1 <;> cases q2 <;> cases q3 <;> cases q4 <;> cases q5
  all_goals
    go_wp2_with (first
      | (go_at_call 31; have hno := B1; refine (HV.out _ B1.out).mono ?_; rintro e w2 ⟨rfl, hb⟩; have B2 := Lib.hid (B1.out.trans (hb.mono B1.out.size)); clear hb hno)
      | (go_at_call 31; refine (HT.out _ BC.out).mono ?_; rintro e w1 ⟨rfl, hb⟩; have B1 := Lib.hid (BC.out.trans (hb.mono BC.out.size)); have E0 := D0.out.under hb D0.out.lt; have E1 := D1.out.under hb D1.out.lt; clear hb e0 e1 e2 e3 e4 el o0 o1 o2 o3 o4 ol; obtain ⟨e0, e1, e2, e3, e4⟩ := cells5 E0; have el := E0.lt; obtain ⟨o0, o1, o2, o3, o4⟩ := cells5 E1; have ol := E1.lt; clear E0 E1))
    go_ret
    first
      | exact ⟨rfl, B2.out⟩
      | exact ⟨rfl, B1.out⟩
      | exact ⟨rfl, BC.out⟩
end Go.Proofs.YtjeldfipipkfiaaGreat
