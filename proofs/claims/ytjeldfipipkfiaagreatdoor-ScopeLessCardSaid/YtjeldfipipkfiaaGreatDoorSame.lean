/- The contracts of slices.Equal, slices.EqualFunc, kind.alike and kind.Same; no condition but those of Go's own values. -/
import Derived.Test.YtjeldfipipkfiaaGreatDoorCount
import Derived.Deep.QuietTactic
import Derived.Deep.Draws
namespace Go.Proofs.YtjeldfipipkfiaaGreatDoor
open Go.RowKit
theorem below_drewN {B : Nat} {a w : World} (h : Below B a w) (n : Nat) : Below B a (w.drewN n) := ⟨h.os, h.tape, h.output, h.size, h.block⟩
theorem acc2 {B : Nat} {w a c : World} {o o' : Obj} (h : Below B w a) (hB : B ≤ a.heap.size) (hb : Below ((a.alloc o).alloc o').heap.size ((a.alloc o).alloc o') c) : Below B w c :=
  ((h.alloc hB o).alloc (Nat.le_trans hB (by simp)) o').trans (hb.mono (Nat.le_trans hB (by simp; omega)))
def equalB : List ByteArray → List ByteArray → Bool
  | [], [] => true
  | a :: l, b :: m => (a.toList == b.toList) && equalB l m
  | _, _ => false
theorem equalB_iff : ∀ l m : List ByteArray, equalB l m = true ↔ l = m
  | [], [] => by simp [equalB]
  | [], _ :: _ => by simp [equalB]
  | _ :: _, [] => by simp [equalB]
  | a :: l, b :: m => by rw [equalB, Bool.and_eq_true, ba_eq, decide_eq_true_eq, equalB_iff l m]; simp
theorem equalB_len {l m : List ByteArray} (h : l.length ≠ m.length) : equalB l m = false := by
  cases he : equalB l m
  · rfl
  · rw [(equalB_iff l m).1 he] at h; exact absurd rfl h
theorem equalB_at {l m : List ByteArray} {k : Nat} (h1 : k < l.length) (h2 : k < m.length) (h : l[k] ≠ m[k]) : equalB l m = false := by
  cases he : equalB l m
  · rfl
  · have := (equalB_iff l m).1 he; subst this; exact absurd rfl h
theorem equal_c (A A' : Option Addr) (c c' B : Nat) (l m : List ByteArray) (w : World) (hl : l.length ≤ maxLen) (_hm : m.length ≤ maxLen) (hr : StrsAt w B A l) (hr' : StrsAt w B A' m) :
    Calls Tryz.prog 228 #[.slice A l.length c, .slice A' m.length c'] w fun e w' => e = .returned (.bool (equalB l m)) ∧ Below w.heap.size w w' := by
  unfold maxLen at hl
  by_cases he : l.length = m.length
  · rw [← he]
    have HE := Lib.hid he
    clear he
    go_enter Tryz.func228, Tryz.ntmps228
    go_wp2
    go_loopw [13] (fun i w1 => ∃ k : Nat, k ≤ l.length ∧ i = .int .i64 k ∧ Below w.heap.size w w1 ∧ w1.heap = w.heap ∧ l.take k = m.take k) (fun i _ => l.length - (intOf i).toNat)
    case atStart => exact ⟨0, Nat.zero_le _, rfl, Below.refl _ _, rfl, rfl⟩
    case round =>
      obtain ⟨k, hk, rfl, hacc, hheap, htk⟩ := hrel
      have HT := Lib.hid htk
      have HH := Lib.hid hheap
      clear htk hheap
      by_cases hlt : k < l.length
      · have hlt' : k < m.length := by have := HE.out; omega
        rcases hr with hr | ⟨b, o, rfl, hb, hc⟩
        · subst hr; simp at hlt
        rcases hr' with hr' | ⟨b', o', rfl, hb', hc'⟩
        · subst hr'; simp at hlt'
        have h1 : wr.cell? ⟨b, o + k, none⟩ = some (.string l[k]) := by have := hc k hlt; unfold World.cell? at this ⊢; rw [HH.out]; exact this
        have h2 : wr.cell? ⟨b', o' + k, none⟩ = some (.string m[k]) := by have := hc' k hlt'; unfold World.cell? at this ⊢; rw [HH.out]; exact this
        clear hc hc'
        by_cases hx : l[k] = m[k]
        · have hy := ba_yes hx
          have HX := Lib.hid hx
          clear hx
          go_wp2
          go_quiet (fail)
          go_wp2
          refine ⟨⟨k + 1, by omega, by go_num, below_drewN hacc _, HH.out, ?_⟩, by simp [intOf]; omega⟩
          rw [List.take_succ_eq_append_getElem hlt, List.take_succ_eq_append_getElem hlt', HT.out, HX.out]
        · have hy := ba_no hx
          have HX := Lib.hid hx
          clear hx
          go_wp2
          go_quiet (fail)
          go_wp2
          go_ret
          exact ⟨ret_b (equalB_at hlt hlt' HX.out).symm, below_drewN hacc _⟩
      · go_wp2
        go_ret
        have e : k = l.length := by omega
        have h := HT.out
        rw [List.take_of_length_le (by omega), List.take_of_length_le (by have := HE.out; omega)] at h
        exact ⟨ret_b ((equalB_iff l m).2 h).symm, hacc⟩
  · have hq : ((l.length : Int) == (m.length : Int)) = false := by simp; omega
    have HE := Lib.hid he
    clear he
    go_enter Tryz.func228, Tryz.ntmps228
    go_wp2
    go_ret
    exact ⟨ret_b (equalB_len HE.out).symm, Below.refl _ _⟩
/-- are two types alike, field by field -/
def flatB (a b : Ty) : Bool := a.kind == b.kind && (a.pkg.toList == b.pkg.toList) && a.major == b.major && (a.mod.toList == b.mod.toList) && (a.name.toList == b.name.toList) && equalB a.names b.names
mutual
def alikeT : Ty → Ty → Bool
  | .mk k p m mo n ns ss, b => flatB (.mk k p m mo n ns ss) b && alikeL ss b.subs
def alikeL : List Ty → List Ty → Bool
  | [], [] => true
  | s :: ss, t :: ts => alikeT s t && alikeL ss ts
  | _, _ => false
end
theorem alikeT_eq (a b : Ty) : alikeT a b = (flatB a b && alikeL a.subs b.subs) := by
  cases a; rw [alikeT]; rfl
theorem flatB_iff (a b : Ty) : flatB a b = true ↔ a.kind = b.kind ∧ a.pkg = b.pkg ∧ a.major = b.major ∧ a.mod = b.mod ∧ a.name = b.name ∧ a.names = b.names := by
  simp only [flatB, Bool.and_eq_true, ba_eq, decide_eq_true_eq, beq_iff_eq, equalB_iff]
  constructor
  · rintro ⟨⟨⟨⟨⟨h1, h2⟩, h3⟩, h4⟩, h5⟩, h6⟩; exact ⟨h1, h2, h3, h4, h5, h6⟩
  · rintro ⟨h1, h2, h3, h4, h5, h6⟩; exact ⟨⟨⟨⟨⟨h1, h2⟩, h3⟩, h4⟩, h5⟩, h6⟩
theorem alike_iff (a : Ty) : ∀ b : Ty, alikeT a b = true ↔ a = b := by
  induction a using Ty.ind with
  | h a ih =>
    intro b
    have key : ∀ (l m : List Ty), (∀ s ∈ l, s ∈ a.subs) → (alikeL l m = true ↔ l = m) := by
      intro l
      induction l with
      | nil => intro m _; cases m <;> simp [alikeL]
      | cons s l ihl =>
        intro m hm
        cases m with
        | nil => simp [alikeL]
        | cons t m =>
          rw [alikeL, Bool.and_eq_true, ih s (hm s (by simp)), ihl m (fun x hx => hm x (by simp [hx]))]
          simp
    rw [alikeT_eq, Bool.and_eq_true, flatB_iff, key a.subs b.subs (fun _ h => h)]
    obtain ⟨k, p, m, mo, n, ns, ss⟩ := a
    obtain ⟨k', p', m', mo', n', ns', ss'⟩ := b
    simp only [Ty.kind, Ty.pkg, Ty.major, Ty.mod, Ty.name, Ty.names, Ty.subs, Ty.mk.injEq]
    constructor
    · rintro ⟨⟨h1, h2, h3, h4, h5, h6⟩, h7⟩; exact ⟨h1, h2, h3, h4, h5, h6, h7⟩
    · rintro ⟨h1, h2, h3, h4, h5, h6, h7⟩; exact ⟨⟨h1, h2, h3, h4, h5, h6⟩, h7⟩
theorem alikeL_len : ∀ {l m : List Ty}, l.length ≠ m.length → alikeL l m = false
  | [], [], h => absurd rfl h
  | [], _ :: _, _ => rfl
  | _ :: _, [], _ => rfl
  | s :: l, t :: m, h => by rw [alikeL, alikeL_len (l := l) (m := m) (by simpa using h), Bool.and_false]
theorem alikeL_drop {l m : List Ty} {k : Nat} (h1 : k < l.length) (h2 : k < m.length) : alikeL (l.drop k) (m.drop k) = (alikeT l[k] m[k] && alikeL (l.drop (k + 1)) (m.drop (k + 1))) := by
  rw [List.drop_eq_getElem_cons h1, List.drop_eq_getElem_cons h2, alikeL]
set_option maxHeartbeats 1000000 in
theorem equalFunc_c (fn : Nat) (sa sa' : Option Addr) (c c' B : Nat) (l m : List Ty) (f g : Nat → Array Value) (w : World) (hl : l.length ≤ maxLen) (_hm : m.length ≤ maxLen) (hB : B ≤ w.heap.size)
    (hs : RowsAt w B sa l.length f) (hs' : RowsAt w B sa' m.length g) (hu : ∀ i (h : i < l.length), TyC w B l[i] (f i)) (hu' : ∀ i (h : i < m.length), TyC w B m[i] (g i))
    (hfn : ∀ (a : Array Value) (w : World), (callFunc fn a).run Tryz.prog w = .ok (.enter fn a) w)
    (hp : ∀ i (h : i < l.length) (h' : i < m.length) (w : World), TyC w B l[i] (f i) → TyC w B m[i] (g i) → B ≤ w.heap.size → Calls Tryz.prog fn #[.agg (f i), .agg (g i)] w fun e w' => e = .returned (.bool (alikeT l[i] m[i])) ∧ Below w.heap.size w w') :
    Calls Tryz.prog 229 #[.slice sa l.length c, .slice sa' m.length c', .func (.func fn) #[] #[]] w fun e w' => e = .returned (.bool (alikeL l m)) ∧ Below w.heap.size w w' := by
  unfold maxLen at hl
  have HP := Lib.hid hp
  have HS := Lib.hid hs
  have HS' := Lib.hid hs'
  have HU := Lib.hid hu
  have HU' := Lib.hid hu'
  clear hp hs hs' hu hu'
  by_cases he : l.length = m.length
  · rw [← he]
    have HE := Lib.hid he
    clear he
    go_enter Tryz.func229, Tryz.ntmps229
    go_wp2
    go_loopw [17] (fun i w1 => ∃ k : Nat, k ≤ l.length ∧ i = .int .i64 k ∧ Below w.heap.size w w1 ∧ alikeL (l.drop k) (m.drop k) = alikeL l m) (fun i _ => l.length - (intOf i).toNat)
    case atStart => exact ⟨0, Nat.zero_le _, rfl, Below.refl _ _, rfl⟩
    case round =>
      obtain ⟨k, hk, rfl, hacc, heq⟩ := hrel
      have HQ := Lib.hid heq
      clear heq
      by_cases hlt : k < l.length
      · have hlt' : k < m.length := by have := HE.out; omega
        have hT := (HU.out k hlt).under (hacc.mono hB)
        have hT' := (HU'.out k hlt').under (hacc.mono hB)
        obtain ⟨b, o, na, nc, sa1, sc1, rfl, hbb, hfk, c0, c1, c2, c3, c4, c5, c6⟩ := TyC.elem (HS.out.keep fun p hp => hacc.cell (p := p) (by omega)) hlt hT
        obtain ⟨b', o', na', nc', sa1', sc1', rfl, hbb', hfk', d0, d1, d2, d3, d4, d5, d6⟩ := TyC.elem (HS'.out.keep fun p hp => hacc.cell (p := p) (by omega)) hlt' hT'
        have HF := Lib.hid hfk
        have HF' := Lib.hid hfk'
        have hdrop := Lib.hid (alikeL_drop hlt hlt')
        have hsz := hacc.size
        have hbw : b' < wr.heap.size := by omega
        clear hfk hfk'
        go_wp2_with fail
        have hT1 := ((hT.alloc (Nat.le_trans hB hsz) (.cells (tyCells l[k] na nc sa1 sc1) 29)).alloc (by simp; omega) (.cells (tyCells m[k] na' nc' sa1' sc1') 29))
        have hT1' := ((hT'.alloc (Nat.le_trans hB hsz) (.cells (tyCells l[k] na nc sa1 sc1) 29)).alloc (by simp; omega) (.cells (tyCells m[k] na' nc' sa1' sc1') 29))
        have hcall := HP.out k hlt hlt' _ hT1 hT1' (by simp; omega)
        rw [HF.out, HF'.out] at hcall
        clear hT1 hT1'
        refine hcall.mono ?_
        clear hcall
        rintro e w1 ⟨rfl, hb1⟩
        have hacc1 : Below w.heap.size w w1 := acc2 hacc hsz hb1
        clear hacc
        cases hx : alikeT l[k] m[k]
        · go_wp2
          go_ret
          have h := HQ.out
          rw [hdrop.out, hx, Bool.false_and] at h
          exact ⟨ret_b h, hacc1⟩
        · go_wp2
          refine ⟨⟨k + 1, by omega, by go_num, hacc1, ?_⟩, by simp [intOf]; omega⟩
          have h := HQ.out
          rw [hdrop.out, hx, Bool.true_and] at h
          exact h
      · go_wp2
        go_ret
        have e : k = l.length := by omega
        have h := HQ.out
        rw [List.drop_of_length_le (by omega), List.drop_of_length_le (by have := HE.out; omega)] at h
        exact ⟨ret_b h, hacc⟩
  · have hq : ((l.length : Int) == (m.length : Int)) = false := by simp; omega
    have HE := Lib.hid he
    clear he
    go_enter Tryz.func229, Tryz.ntmps229
    go_wp2
    go_ret
    exact ⟨ret_b (alikeL_len HE.out).symm, Below.refl _ _⟩
theorem enter_alike (a : Array Value) (w : World) : (callFunc 211 a).run Tryz.prog w = .ok (.enter 211 a) w := by kernel_rfl
def flat5 (a b : Ty) : Bool := a.kind == b.kind && (a.pkg.toList == b.pkg.toList) && a.major == b.major && (a.mod.toList == b.mod.toList) && (a.name.toList == b.name.toList)
theorem alike_flat5 {a b : Ty} (h : flat5 a b = false) : alikeT a b = false := by
  rw [alikeT_eq, flatB]
  unfold flat5 at h
  rw [h]; rfl
theorem alike_of5 {a b : Ty} (h : flat5 a b = true) : alikeT a b = (equalB a.names b.names && alikeL a.subs b.subs) := by
  rw [alikeT_eq, flatB]
  unfold flat5 at h
  rw [h, Bool.true_and]
theorem flat5_eq {k p m mo n ns ss k' p' m' mo' n' ns' ss'} (h : flat5 (.mk k p m mo n ns ss) (.mk k' p' m' mo' n' ns' ss') = true) : k = k' ∧ p = p' ∧ m = m' ∧ mo = mo' ∧ n = n' := by
  simp only [flat5, Ty.kind, Ty.pkg, Ty.major, Ty.mod, Ty.name, Bool.and_eq_true, ba_eq, decide_eq_true_eq, beq_iff_eq] at h
  obtain ⟨⟨⟨⟨h1, h2⟩, h3⟩, h4⟩, h5⟩ := h
  exact ⟨h1, h2, h3, h4, h5⟩
theorem boxes (w : World) (C D : Array Value) (T : TypeId) : BoxAt ((w.alloc (.cells C T)).alloc (.cells D T)) w.heap.size C ∧ BoxAt ((w.alloc (.cells C T)).alloc (.cells D T)) (w.heap.size + 1) D := by
  refine ⟨(BoxAt.new _ _ _).alloc _, ?_⟩
  have := BoxAt.new (w.alloc (.cells C T)) D T
  rwa [World.size_alloc] at this
set_option maxHeartbeats 2000000 in
theorem alike_c (a : Ty) : ∀ (b : Ty) (cs cs' : Array Value) (B : Nat) (w : World), TyC w B a cs → TyC w B b cs' → B ≤ w.heap.size →
    Calls Tryz.prog 211 #[.agg cs, .agg cs'] w fun e w' => e = .returned (.bool (alikeT a b)) ∧ Below w.heap.size w w' := by
  induction a using Ty.ind with
  | h a ih =>
    intro b cs cs' B w ha hb hB
    obtain ⟨na, nc, sa, sc, f, rfl, hf, hn, hs, hnc, hsc, hsub⟩ := ha.inv
    obtain ⟨na', nc', sa', sc', f', rfl, hf', hn', hs', hnc', hsc', hsub'⟩ := hb.inv
    cases h5 : flat5 a b
    · have H5 := Lib.hid h5
      have HR := Lib.hid (alike_flat5 h5)
      clear h5 ih hf hf' hn hn' hs hs' hsub hsub' ha hb
      go_enter Tryz.func211, Tryz.ntmps211
      simp only [tyCells]
      go_wp2_with fail
      all_goals first
        | (go_ret
           exact ⟨ret_b HR.out.symm, ((Below.refl _ _).alloc (Nat.le_refl _) _).alloc (by simp) _⟩)
        | (exfalso
           have h := H5.out
           go_tidy
           simp_all [flat5])
    · have HR := Lib.hid (alike_of5 h5)
      obtain ⟨k, p, m, mo, n, ns, ss⟩ := a
      obtain ⟨k', p', m', mo', n', ns', ss'⟩ := b
      obtain ⟨rfl, rfl, rfl, rfl, rfl⟩ := flat5_eq h5
      have HI := Lib.hid ih
      have HF := Lib.hid hf
      have HF' := Lib.hid hf'
      have HN := Lib.hid hn
      have HN' := Lib.hid hn'
      have HS := Lib.hid hs
      have HS' := Lib.hid hs'
      have HU := Lib.hid hsub
      have HU' := Lib.hid hsub'
      clear ih ha hb hf hf' hn hn' hs hs' hsub hsub' h5
      go_enter Tryz.func211, Tryz.ntmps211
      simp only [tyCells, Ty.kind, Ty.pkg, Ty.major, Ty.mod, Ty.name, Ty.names, Ty.subs]
      go_wp2_with fail
      refine (equal_c na na' nc nc' B ns ns' _ HF.out.names HF'.out.names ((HN.out.alloc hB _).alloc (by simp; omega) _) ((HN'.out.alloc hB _).alloc (by simp; omega) _)).mono ?_
      rintro e w1 ⟨rfl, hb1⟩
      have hacc : Below w.heap.size w w1 := acc2 (Below.refl _ _) (Nat.le_refl _) hb1
      have hbx := (boxes _ _ _ _).1.under hb1
      have hby := (boxes _ _ _ _).2.under hb1
      cases hen : equalB ns ns'
      · go_wp2
        go_ret
        exact ⟨ret_b (by rw [HR.out]; show _ = (equalB ns ns' && _); rw [hen]; rfl), hacc⟩
      · obtain ⟨hx1, hx2⟩ := hbx
        obtain ⟨hy1, hy2⟩ := hby
        go_wp2_with fail
        refine (equalFunc_c 211 sa sa' sc sc' B ss ss' f f' w1 HF.out.subs HF'.out.subs (Nat.le_trans hB hacc.size) (HS.out.keep fun p hp => hacc.cell (p := p) (by omega)) (HS'.out.keep fun p hp => hacc.cell (p := p) (by omega))
          (fun i h => (HU.out i h).under (hacc.mono hB)) (fun i h => (HU'.out i h).under (hacc.mono hB)) enter_alike
          (fun i h h' W h1 h2 h3 => HI.out ss[i] (List.getElem_mem h) ss'[i] _ _ B W h1 h2 h3)).mono ?_
        rintro e w2 ⟨rfl, hb2⟩
        go_wp2
        go_ret
        exact ⟨ret_b (by rw [HR.out]; show _ = (equalB ns ns' && _); rw [hen]; rfl), acc0 hacc hacc.size hb2⟩
theorem Same_c (a b : Ty) (cs cs' : Array Value) (B : Nat) (w : World) (ha : TyC w B a cs) (hb : TyC w B b cs') (hB : B ≤ w.heap.size) :
    Calls Tryz.prog 157 #[.agg cs, .agg cs'] w fun e w' => e = .returned (.bool (mayT a && mayT b && alikeT a b)) ∧ Below w.heap.size w w' := by
  obtain ⟨na, nc, sa, sc, f, rfl, -⟩ := ha.inv
  obtain ⟨na', nc', sa', sc', f', rfl, -⟩ := hb.inv
  have HA := Lib.hid ha
  have HB := Lib.hid hb
  clear ha hb
  go_enter Tryz.func157, Tryz.ntmps157
  simp only [tyCells]
  go_wp2_with fail
  refine (May_c a _ B _ ((HA.out.alloc hB _).alloc (by simp; omega) _) (by simp; omega)).mono ?_
  rintro e w1 ⟨rfl, hb1⟩
  have hacc : Below w.heap.size w w1 := acc2 (Below.refl _ _) (Nat.le_refl _) hb1
  have hbx := (boxes _ _ _ _).1.under hb1
  have hby := (boxes _ _ _ _).2.under hb1
  have HX := Lib.hid hbx
  have HY := Lib.hid hby
  obtain ⟨hx1, hx2⟩ := hbx
  obtain ⟨hy1, hy2⟩ := hby
  cases h1 : mayT a
  · go_wp2
    go_ret
    exact ⟨ret_b (by simp [h1]), hacc⟩
  · go_wp2_with fail
    refine (May_c b _ B _ (HB.out.under (hacc.mono hB)) (Nat.le_trans hB hacc.size)).mono ?_
    rintro e w2 ⟨rfl, hb2⟩
    have hacc := acc0 hacc hacc.size hb2
    obtain ⟨hx3, hx4⟩ := HX.out.under hb2
    obtain ⟨hy3, hy4⟩ := HY.out.under hb2
    cases h2 : mayT b
    · go_wp2
      go_ret
      exact ⟨ret_b (by simp [h1, h2]), hacc⟩
    · go_wp2_with fail
      refine (alike_c a b _ _ B _ (HA.out.under (hacc.mono hB)) (HB.out.under (hacc.mono hB)) (Nat.le_trans hB hacc.size)).mono ?_
      rintro e w3 ⟨rfl, hb3⟩
      go_wp2
      go_ret
      exact ⟨ret_b (by simp [h1, h2]), acc0 hacc hacc.size hb3⟩
end Go.Proofs.YtjeldfipipkfiaaGreatDoor
