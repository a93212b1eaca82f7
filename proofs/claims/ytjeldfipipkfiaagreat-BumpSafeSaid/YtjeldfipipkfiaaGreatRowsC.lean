/- The contracts of bump.turned and of bump.rows; memory: two rows of named types. -/
import Derived.Test.YtjeldfipipkfiaaGreatNamesF
import Derived.Test.YtjeldfipipkfiaaGreatGSub
namespace Go.Proofs.YtjeldfipipkfiaaGreat
open Go.RowKit
set_option linter.unusedSimpArgs false
set_option linter.unusedVariables false
def sameB (a b : Ty) : Bool := mayT a && mayT b && alikeT a b
def turnF (a b : Ty) (o : Bool) : Int := if sameB a b = true then 0 else if o = true ∨ SubB b a = false then 2 else 3
structure Chg where
  kind : Int
  mod : ByteArray
  name : ByteArray
  ofType : Bool
def Chg.cells (c : Chg) : List Value := [.int .i64 c.kind, .string c.mod, .string c.name, .bool c.ofType]
def flatC (l : List Chg) : List Value := l.flatMap Chg.cells
theorem flatC_push (l : List Chg) (c : Chg) : flatC (l ++ [c]) = flatC l ++ c.cells := by simp [flatC]
theorem flatC_app (l m : List Chg) : flatC (l ++ m) = flatC l ++ flatC m := by simp [flatC]
theorem flatC_len (l : List Chg) : (flatC l).length = l.length * 4 := by
  induction l with
  | nil => rfl
  | cons c l ih => simp only [flatC, List.flatMap_cons, List.length_append, List.length_cons] at ih ⊢; simp [Chg.cells] at ih ⊢; omega
theorem flatC_one (l : List Chg) : ∀ u ∈ flatC l, u.oneCell' = true := by
  intro u hu
  obtain ⟨c, -, hm⟩ := List.mem_flatMap.1 hu
  simp [Chg.cells] at hm
  rcases hm with rfl | rfl | rfl | rfl <;> rfl
theorem info_chg : ((Tryz.prog).info? 83).map (fun i => (i.zero, i.size, i.bytes)) = some (some (.agg #[.int .i64 0, .string { data := #[] }, .string { data := #[] }, .bool false]), 4, 48) := by kernel_rfl
def kindO (fa fb : Option Nm) (o : Bool) : Int := match fa, fb with
  | some x, some y => turnF x.ty y.ty o
  | some _, none => 1
  | none, _ => 4
def kindF (a b : List Nm) (n : ByteArray) (o : Bool) : Int := kindO (firstNamed a n) (firstNamed b n) o
def oneF (mod : ByteArray) (a b : List Nm) (o : Bool) (n : ByteArray) : List Chg := if 0 < kindF a b n o then [⟨kindF a b n o, mod, n, o⟩] else []
def rowsF (mod : ByteArray) (a b : List Nm) (o : Bool) : List Chg := (unionN (a.map Nm.name) (b.map Nm.name)).flatMap (oneF mod a b o)
theorem boxesT (w : World) (C D : Array Value) (T : TypeId) : Blk ((w.alloc (.cells C T)).alloc (.cells D T)) w.heap.size C T ∧ Blk ((w.alloc (.cells C T)).alloc (.cells D T)) (w.heap.size + 1) D T ∧ ((w.alloc (.cells C T)).alloc (.cells D T)).heap.size = w.heap.size + 1 + 1 ∧ Below w.heap.size w ((w.alloc (.cells C T)).alloc (.cells D T)) := by
  have e1 : (w.alloc (.cells C T)).heap.size = w.heap.size + 1 := by simp
  have b1 := Blk.new (w.alloc (.cells C T)) D T
  rw [e1] at b1
  exact ⟨(Blk.new w C T).alloc _, b1, by simp, ((Below.refl _ _).alloc (Nat.le_refl _) _).alloc (by simp) _⟩
theorem cells7T {w : World} {g : Nat} {T : TypeId} {x0 x1 x2 x3 x4 x5 x6 : Value} (h : Blk w g #[x0, x1, x2, x3, x4, x5, x6] T) :
    w.cell? ⟨g, 0, none⟩ = some x0 ∧ w.cell? ⟨g, 1, none⟩ = some x1 ∧ w.cell? ⟨g, 2, none⟩ = some x2 ∧ w.cell? ⟨g, 3, none⟩ = some x3 ∧ w.cell? ⟨g, 4, none⟩ = some x4 ∧ w.cell? ⟨g, 5, none⟩ = some x5 ∧ w.cell? ⟨g, 6, none⟩ = some x6 :=
  ⟨h.cell 0, h.cell 1, h.cell 2, h.cell 3, h.cell 4, h.cell 5, h.cell 6⟩
set_option maxRecDepth 100000 in
set_option maxHeartbeats 8000000 in
theorem turned_c (a b : Ty) (na : Option Addr) (nc : Nat) (sa : Option Addr) (sc : Nat) (na' : Option Addr) (nc' : Nat) (sa' : Option Addr) (sc' : Nat) (o : Bool) (B : Nat) (w : World) (ha : TyC w B a (tyCells a na nc sa sc)) (hb : TyC w B b (tyCells b na' nc' sa' sc')) (hB : B ≤ w.heap.size) :
    Calls Tryz.prog 121 #[.agg (tyCells a na nc sa sc), .agg (tyCells b na' nc' sa' sc'), .bool o] w fun e w' => e = .returned (.int .i64 (turnF a b o)) ∧ Below w.heap.size w w' := by
  have C1 := fun w ha hb hB => Same_c a b (tyCells a na nc sa sc) (tyCells b na' nc' sa' sc') B w ha hb hB
  have C2 := fun w ha hb hB => Sub_c b a (tyCells b na' nc' sa' sc') (tyCells a na nc sa sc) B w hb ha hB
  obtain ⟨s, hs⟩ : ∃ s, (mayT a && mayT b && alikeT a b) = s := ⟨_, rfl⟩
  obtain ⟨u, hu⟩ : ∃ u, SubB b a = u := ⟨_, rfl⟩
  have hr : turnF a b o = if s = true then 0 else if o = true ∨ u = false then 2 else 3 := by rw [turnF, sameB, hs, hu]
  rw [hr]
  simp only [hs, tyCells] at C1
  simp only [hu, tyCells] at C2
  have H1 := Lib.hid C1
  have H2 := Lib.hid C2
  have HA := Lib.hid ha
  have HBB := Lib.hid hb
  simp only [tyCells] at HA HBB ⊢
  clear C1 C2 hs hu hr ha hb
  go_enter Tryz.func121, Tryz.ntmps121
  go_upto_region 1 with fail
  obtain ⟨x1, x2, hsz, xb⟩ := boxesT w #[.int .i64 a.kind, .string a.pkg, .int .i64 a.major, .string a.mod, .string a.name, .slice na a.names.length nc, .slice sa a.subs.length sc] #[.int .i64 b.kind, .string b.pkg, .int .i64 b.major, .string b.mod, .string b.name, .slice na' b.names.length nc', .slice sa' b.subs.length sc'] 53
  generalize ((w.alloc (.cells #[.int .i64 a.kind, .string a.pkg, .int .i64 a.major, .string a.mod, .string a.name, .slice na a.names.length nc, .slice sa a.subs.length sc] 53)).alloc (.cells #[.int .i64 b.kind, .string b.pkg, .int .i64 b.major, .string b.mod, .string b.name, .slice na' b.names.length nc', .slice sa' b.subs.length sc'] 53)) = W at x1 x2 hsz xb ⊢
  have X1 := Lib.hid x1
  have X2 := Lib.hid x2
  have XB := Lib.hid xb
  obtain ⟨k0, k1, k2, k3, k4, k5, k6⟩ := cells7T x1
  obtain ⟨j0, j1, j2, j3, j4, j5, j6⟩ := cells7T x2
  have l1 := x1.lt
  have l2 := x2.lt
  clear x1 x2 xb hsz
  cases s <;> cases o <;> cases u
  all_goals
    go_wp2_with (first
      | (go_at_call 63; refine (H1.out _ (HA.out.under (XB.out.mono hB)) (HBB.out.under (XB.out.mono hB)) (Nat.le_trans hB XB.out.size)).mono ?_; rintro e w1 ⟨rfl, hb1⟩; have B1 := Lib.hid (XB.out.trans (hb1.mono XB.out.size)); have Y1 := Lib.hid (X1.out.under hb1 X1.out.lt); have Y2 := Lib.hid (X2.out.under hb1 X2.out.lt); clear hb1 k0 k1 k2 k3 k4 k5 k6 j0 j1 j2 j3 j4 j5 j6 l1 l2; obtain ⟨k0, k1, k2, k3, k4, k5, k6⟩ := cells7T Y1.out; obtain ⟨j0, j1, j2, j3, j4, j5, j6⟩ := cells7T Y2.out; have l1 := Y1.out.lt; have l2 := Y2.out.lt)
      | (go_at_call 78; refine (H2.out _ (HA.out.under (B1.out.mono hB)) (HBB.out.under (B1.out.mono hB)) (Nat.le_trans hB B1.out.size)).mono ?_; rintro e w2 ⟨rfl, hb2⟩; have B2 := Lib.hid (B1.out.trans (hb2.mono B1.out.size)); clear hb2 k0 k1 k2 k3 k4 k5 k6 j0 j1 j2 j3 j4 j5 j6 l1 l2))
    go_ret
    first
    | exact ⟨rfl, B2.out⟩
    | exact ⟨rfl, B1.out⟩
theorem ownsRow_base {w : World} {b0 base e size n : Nat} {v : Value} {xs : List Value} (h : w.ownsRow base e size v n xs) (hb : b0 ≤ base) : w.ownsRow b0 e size v n xs := by
  obtain ⟨h0, h | ⟨g, cap, cur, h1, h2, h3⟩⟩ := h
  · exact ⟨h0, .inl h⟩
  · exact ⟨h0, .inr ⟨g, cap, cur, h1, Nat.le_trans hb h2, h3⟩⟩
set_option maxRecDepth 100000 in
set_option maxHeartbeats 40000000 in
theorem rows_c (mod : ByteArray) (A A' : Option Addr) (c c' B : Nat) (a b : List Nm) (o : Bool) (w : World) (h1 : NmsAt w B A a) (h2 : NmsAt w B A' b) (hB : B ≤ w.heap.size) (hl : a.length ≤ 1000) (hl' : b.length ≤ 1000) :
    Calls Tryz.prog 68 #[.string mod, .slice A a.length c, .slice A' b.length c', .bool o] w fun e w' => ∃ v, e = .returned v ∧ w'.ownsRow w.heap.size 83 4 v (rowsF mod a b o).length (flatC (rowsF mod a b o)) ∧ Below w.heap.size w w' := by
  obtain ⟨i0, hi, hz0, hz1, hz2⟩ := info_parts info_chg
  have H1 := Lib.hid h1
  have H2 := Lib.hid h2
  obtain ⟨U, hU⟩ : ∃ U, unionN (a.map Nm.name) (b.map Nm.name) = U := ⟨_, rfl⟩
  have hUl : U.length ≤ 2000 := by
    have := unionN_len (a.map Nm.name) (b.map Nm.name)
    rw [hU, List.length_map, List.length_map] at this; omega
  have hCN := fun w h1 h2 hB => namesNamed_c A A' c c' B a b w h1 h2 hB hl hl'
  simp only [hU] at hCN
  have HCN := Lib.hid hCN
  obtain ⟨RR, hR⟩ : ∃ RR, rowsF mod a b o = RR := ⟨_, rfl⟩
  simp only [hR]
  have HRR := Lib.hid (show U.flatMap (oneF mod a b o) = RR by rw [← hR, rowsF, hU])
  clear h1 h2 hCN hU hR
  go_enter Tryz.func68, Tryz.ntmps68
  go_upto_region 3 with (go_at_call 118; refine (HCN.out _ H1.out H2.out hB).mono ?_; rintro e w1 ⟨AU, capU, rfl, hcU, hSU, hb⟩; have B1 := Lib.hid hb; have SU := Lib.hid hSU; clear hb hSU)
  have acl : ∀ k, ((U.take k).flatMap (oneF mod a b o)).length ≤ k := by
    intro k
    have : ∀ l : List ByteArray, (l.flatMap (oneF mod a b o)).length ≤ l.length := by
      intro l
      induction l with
      | nil => exact Nat.le_refl _
      | cons x l ih =>
        rw [List.flatMap_cons, List.length_append, List.length_cons]
        have : (oneF mod a b o x).length ≤ 1 := by unfold oneF; split <;> simp
        omega
    exact Nat.le_trans (this _) (List.length_take_le _ _)
  have ACL := Lib.hid acl
  clear acl
  go_loopw [9, 21] (fun v i wk => ∃ (k : Nat) (vv : Value), vv = v ∧ i = .int .i64 k ∧ k ≤ U.length ∧ Below w1.heap.size w1 wk ∧ wk.ownsRow w1.heap.size 83 4 v ((U.take k).flatMap (oneF mod a b o)).length (flatC ((U.take k).flatMap (oneF mod a b o)))) (fun _ i _ => U.length - (intOf i).toNat)
  case atStart => exact ⟨0, _, rfl, rfl, Nat.zero_le _, Below.refl _ _, World.ownsRow_nil _ _ _ _⟩
  case round =>
    rename World => wk
    obtain ⟨k, vv, rfl, rfl, hk, hb, hown⟩ := hrel
    have HB := Lib.hid hb
    have HW := Lib.hid hown
    have AB := Lib.hid (B1.out.trans (hb.mono B1.out.size))
    clear hb
    by_cases hlt : k < U.length
    rotate_left
    · obtain rfl : k = U.length := by omega
      have hltI : ¬ (U.length : Int) < (U.length : Int) := by omega
      have e : U.take U.length = U := List.take_of_length_le (Nat.le_refl _)
      rw [e, HRR.out] at hown
      have HO := Lib.hid hown
      clear hown e HW
      go_wp2_with fail
      go_ret
      refine ⟨vv, rfl, ?_, AB.out⟩
      exact ownsRow_base HO.out B1.out.size
    have hltI : (k : Int) < (U.length : Int) := by omega
    obtain ⟨n, hn⟩ : ∃ n, U[k] = n := ⟨_, rfl⟩
    rcases SU.out with hU0 | ⟨bu, ou, rfl, hbu, hcu⟩
    · rw [hU0] at hlt; simp at hlt
    have cu := hcu k hlt
    rw [hn, ← HB.out.cell (p := ⟨bu, _, none⟩) hbu] at cu
    have hbuR : bu < wk.heap.size := Nat.lt_of_lt_of_le hbu HB.out.size
    have hnext : (U.take (k + 1)).flatMap (oneF mod a b o) = (U.take k).flatMap (oneF mod a b o) ++ oneF mod a b o n := by
      rw [List.take_succ_eq_append_getElem hlt, List.flatMap_append, hn]; simp
    have HNX := Lib.hid hnext
    obtain ⟨L, hL⟩ : ∃ L, (U.take k).flatMap (oneF mod a b o) = L := ⟨_, rfl⟩
    have hLk := ACL.out k
    rw [hL] at HW HNX hLk
    have hLn : L.length ≤ 2000 := by omega
    have hcF := fun w h hB => findNamed_c A c B a n w h hB hl
    have hcG := fun w h hB => findNamed_c A' c' B b n w h hB hl'
    obtain ⟨fa, hfa⟩ : ∃ f, firstNamed a n = f := ⟨_, rfl⟩
    obtain ⟨fb, hfb⟩ : ∃ f, firstNamed b n = f := ⟨_, rfl⟩
    simp only [hfa] at hcF
    simp only [hfb] at hcG
    have hkF : kindF a b n o = kindO fa fb o := by rw [kindF, hfa, hfb]
    have HKF := Lib.hid hkF
    have HCF := Lib.hid hcF
    have HCG := Lib.hid hcG
    clear hnext hcF hcG hfa hfb hkF hn hown hL hcu hLk
    obtain ⟨x, hx⟩ : ∃ x, fa.getD zNm = x := ⟨_, rfl⟩
    obtain ⟨y, hy⟩ : ∃ y, fb.getD zNm = y := ⟨_, rfl⟩
    rw [hx] at HCF
    rw [hy] at HCG
    have HXE := Lib.hid hx
    have HYE := Lib.hid hy
    obtain ⟨had, hhad⟩ : ∃ q, fa.isSome = q := ⟨_, rfl⟩
    obtain ⟨has, hhas⟩ : ∃ q, fb.isSome = q := ⟨_, rfl⟩
    rw [hhad] at HCF
    rw [hhas] at HCG
    have HHAD := Lib.hid hhad
    have HHAS := Lib.hid hhas
    clear hx hy hhad hhas
    go_upto_region 6 with (go_at_call 120; refine (HCF.out _ (H1.out.under (AB.out.mono hB)) (Nat.le_trans hB AB.out.size)).mono ?_; rintro e w2 ⟨cs, rfl, ⟨hns, na, nc, sa, sc, rfl, hty⟩, hb2⟩; have BB := Lib.hid hb2; have TX := Lib.hid hty; clear hb2 hty; simp only [nmCells])
    have HB2 := Lib.hid (HB.out.trans (BB.out.mono HB.out.size))
    have D1 := Lib.hid (Blk.new w2 #[.string x.name, .int .i64 x.ty.kind, .string x.ty.pkg, .int .i64 x.ty.major, .string x.ty.mod, .string x.ty.name, .slice na x.ty.names.length nc, .slice sa x.ty.subs.length sc] 57)
    have HB3 := Lib.hid (HB2.out.alloc HB2.out.size (.cells #[.string x.name, .int .i64 x.ty.kind, .string x.ty.pkg, .int .i64 x.ty.major, .string x.ty.mod, .string x.ty.name, .slice na x.ty.names.length nc, .slice sa x.ty.subs.length sc] 57))
    have HW3 := Lib.hid (owns_under' (owns_under' HW.out BB.out) ((Below.refl w2.heap.size w2).alloc (Nat.le_refl _) (.cells #[.string x.name, .int .i64 x.ty.kind, .string x.ty.pkg, .int .i64 x.ty.major, .string x.ty.mod, .string x.ty.name, .slice na x.ty.names.length nc, .slice sa x.ty.subs.length sc] 57)))
    have TX3 := Lib.hid (TX.out.alloc (Nat.le_trans hB (Nat.le_trans B1.out.size HB2.out.size)) (.cells #[.string x.name, .int .i64 x.ty.kind, .string x.ty.pkg, .int .i64 x.ty.major, .string x.ty.mod, .string x.ty.name, .slice na x.ty.names.length nc, .slice sa x.ty.subs.length sc] 57))
    generalize (w2.alloc (.cells #[.string x.name, .int .i64 x.ty.kind, .string x.ty.pkg, .int .i64 x.ty.major, .string x.ty.mod, .string x.ty.name, .slice na x.ty.names.length nc, .slice sa x.ty.subs.length sc] 57)) = w3 at D1 HB3 HW3 TX3 ⊢
    generalize w2.heap.size = gx at D1 ⊢
    clear cu hbuR TX HB2 BB
    have AB3 := Lib.hid (B1.out.trans (HB3.out.mono B1.out.size))
    go_upto_region 7 with (go_at_call 120; refine (HCG.out _ (H2.out.under (AB3.out.mono hB)) (Nat.le_trans hB AB3.out.size)).mono ?_; rintro e w4 ⟨cs, rfl, ⟨hns', na', nc', sa', sc', rfl, hty⟩, hb2⟩; have BB := Lib.hid hb2; have TY := Lib.hid hty; clear hb2 hty; simp only [nmCells])
    have HB4 := Lib.hid (HB3.out.trans (BB.out.mono HB3.out.size))
    have D14 := Lib.hid (D1.out.under BB.out D1.out.lt)
    have D2 := Lib.hid (Blk.new w4 #[.string y.name, .int .i64 y.ty.kind, .string y.ty.pkg, .int .i64 y.ty.major, .string y.ty.mod, .string y.ty.name, .slice na' y.ty.names.length nc', .slice sa' y.ty.subs.length sc'] 57)
    have D15 := Lib.hid (D14.out.alloc (.cells #[.string y.name, .int .i64 y.ty.kind, .string y.ty.pkg, .int .i64 y.ty.major, .string y.ty.mod, .string y.ty.name, .slice na' y.ty.names.length nc', .slice sa' y.ty.subs.length sc'] 57))
    have HB5 := Lib.hid (HB4.out.alloc HB4.out.size (.cells #[.string y.name, .int .i64 y.ty.kind, .string y.ty.pkg, .int .i64 y.ty.major, .string y.ty.mod, .string y.ty.name, .slice na' y.ty.names.length nc', .slice sa' y.ty.subs.length sc'] 57))
    have HW5 := Lib.hid (owns_under' (owns_under' HW3.out BB.out) ((Below.refl w4.heap.size w4).alloc (Nat.le_refl _) (.cells #[.string y.name, .int .i64 y.ty.kind, .string y.ty.pkg, .int .i64 y.ty.major, .string y.ty.mod, .string y.ty.name, .slice na' y.ty.names.length nc', .slice sa' y.ty.subs.length sc'] 57)))
    have hB4 : B ≤ w4.heap.size := Nat.le_trans hB (Nat.le_trans B1.out.size HB4.out.size)
    have TX5 := Lib.hid ((TX3.out.under (BB.out.mono (Nat.le_trans hB (Nat.le_trans B1.out.size HB3.out.size)))).alloc hB4 (.cells #[.string y.name, .int .i64 y.ty.kind, .string y.ty.pkg, .int .i64 y.ty.major, .string y.ty.mod, .string y.ty.name, .slice na' y.ty.names.length nc', .slice sa' y.ty.subs.length sc'] 57))
    have TY5 := Lib.hid (TY.out.alloc hB4 (.cells #[.string y.name, .int .i64 y.ty.kind, .string y.ty.pkg, .int .i64 y.ty.major, .string y.ty.mod, .string y.ty.name, .slice na' y.ty.names.length nc', .slice sa' y.ty.subs.length sc'] 57))
    generalize (w4.alloc (.cells #[.string y.name, .int .i64 y.ty.kind, .string y.ty.pkg, .int .i64 y.ty.major, .string y.ty.mod, .string y.ty.name, .slice na' y.ty.names.length nc', .slice sa' y.ty.subs.length sc'] 57)) = w5 at D15 D2 HB5 HW5 TX5 TY5 ⊢
    generalize w4.heap.size = gy at D2 hB4 ⊢
    clear D14 HB4 BB TY TX3 HW3 HB3 D1
    have hB5 : B ≤ w5.heap.size := Nat.le_trans hB (Nat.le_trans B1.out.size HB5.out.size)
    cases had
    · have hfa : fa = none := by have := HHAD.out; simpa using this
      subst hfa
      have hone : oneF mod a b o n = [⟨4, mod, n, o⟩] := by rw [oneF, HKF.out]; rfl
      have HONE := Lib.hid hone
      clear hone
      go_wp2_with (at_builtin; refine wpList_append_own _ rfl _ _ 79 rfl w1.heap.size 83 i0 (.agg #[.int .i64 0, .string { data := #[] }, .string { data := #[] }, .bool false]) 4 48 Tryz.underlying79 hi hz0 hz1 hz2 rfl (by decide) _ L.length (flatC L) rfl (owns_under' HW5.out ((Below.refl w5.heap.size w5).alloc (Nat.le_refl _) (.cells #[.int .i64 4, .string mod, .string n, .bool o] 83))) ⟨w5.heap.size, 0, none⟩ 1 1 (Chg.cells ⟨4, mod, n, o⟩) rfl ?qc1 ?qc2 ?qc3 ?qc4 ?qc5 ?qc6 ?_)
      case qc1 => rfl
      case qc2 =>
        intro j u hj
        rw [addN, Nat.zero_add, World.cell?_alloc_new]
        simpa [Chg.cells] using hj
      case qc3 => intro u hu; exact flatC_one [⟨4, mod, n, o⟩] u (by simpa [flatC] using hu)
      case qc4 => unfold maxLen; omega
      case qc5 => omega
      case qc6 => have := HB5.out.size; simp; omega
      intro v' w7 hown7 hgrow hnil
      have hb7 : Below w1.heap.size w1 w7 := (HB5.out.alloc HB5.out.size (.cells #[.int .i64 4, .string mod, .string n, .bool o] 83)).grown hgrow (by have := HB5.out.size; simp; omega) (fun q hq => (owns_lt' HW5.out hq).1)
      have HB7 := Lib.hid hb7
      have HW7 := Lib.hid hown7
      clear hb7 hown7 hgrow hnil
      go_wp2_with fail
      exact ⟨⟨k + 1, _, rfl, by go_num, by omega, HB7.out, by rw [HNX.out, HONE.out, flatC_push, List.length_append]; exact HW7.out⟩, by simp [intOf]; omega⟩
    cases has
    · obtain ⟨x', rfl⟩ := Option.isSome_iff_exists.1 HHAD.out
      have hfb : fb = none := by have := HHAS.out; simpa using this
      subst hfb
      have hone : oneF mod a b o n = [⟨1, mod, n, o⟩] := by rw [oneF, HKF.out]; rfl
      have HONE := Lib.hid hone
      clear hone
      go_wp2_with (at_builtin; refine wpList_append_own _ rfl _ _ 79 rfl w1.heap.size 83 i0 (.agg #[.int .i64 0, .string { data := #[] }, .string { data := #[] }, .bool false]) 4 48 Tryz.underlying79 hi hz0 hz1 hz2 rfl (by decide) _ L.length (flatC L) rfl (owns_under' HW5.out ((Below.refl w5.heap.size w5).alloc (Nat.le_refl _) (.cells #[.int .i64 1, .string mod, .string n, .bool o] 83))) ⟨w5.heap.size, 0, none⟩ 1 1 (Chg.cells ⟨1, mod, n, o⟩) rfl ?qc1 ?qc2 ?qc3 ?qc4 ?qc5 ?qc6 ?_)
      case qc1 => rfl
      case qc2 =>
        intro j u hj
        rw [addN, Nat.zero_add, World.cell?_alloc_new]
        simpa [Chg.cells] using hj
      case qc3 => intro u hu; exact flatC_one [⟨1, mod, n, o⟩] u (by simpa [flatC] using hu)
      case qc4 => unfold maxLen; omega
      case qc5 => omega
      case qc6 => have := HB5.out.size; simp; omega
      intro v' w7 hown7 hgrow hnil
      have hb7 : Below w1.heap.size w1 w7 := (HB5.out.alloc HB5.out.size (.cells #[.int .i64 1, .string mod, .string n, .bool o] 83)).grown hgrow (by have := HB5.out.size; simp; omega) (fun q hq => (owns_lt' HW5.out hq).1)
      have HB7 := Lib.hid hb7
      have HW7 := Lib.hid hown7
      clear hb7 hown7 hgrow hnil
      go_wp2_with fail
      exact ⟨⟨k + 1, _, rfl, by go_num, by omega, HB7.out, by rw [HNX.out, HONE.out, flatC_push, List.length_append]; exact HW7.out⟩, by simp [intOf]; omega⟩
    obtain ⟨x', rfl⟩ := Option.isSome_iff_exists.1 HHAD.out
    obtain ⟨y', rfl⟩ := Option.isSome_iff_exists.1 HHAS.out
    obtain rfl : x' = x := HXE.out
    obtain rfl : y' = y := HYE.out
    have hCT := fun w h1 h2 hB => turned_c x'.ty y'.ty na nc sa sc na' nc' sa' sc' o B w h1 h2 hB
    obtain ⟨t, ht⟩ : ∃ t, turnF x'.ty y'.ty o = t := ⟨_, rfl⟩
    have ht3 : t = 0 ∨ t = 2 ∨ t = 3 := by
      rw [← ht]; unfold turnF
      split
      · exact .inl rfl
      · split
        · exact .inr (.inl rfl)
        · exact .inr (.inr rfl)
    simp only [ht, tyCells] at hCT
    have HCT := Lib.hid hCT
    have hkk : kindF a b n o = t := HKF.out.trans ht
    have HKK := Lib.hid hkk
    clear hCT ht hkk
    obtain ⟨k0, k1, k2, k3, k4, k5, k6, k7⟩ := cellsN8 D15.out
    obtain ⟨j0, j1, j2, j3, j4, j5, j6, j7⟩ := cellsN8 D2.out
    have l1 := D15.out.lt
    have l2 := D2.out.lt
    simp only [tyCells] at TX5 TY5
    go_upto_region 12 with (go_at_call 121; refine (HCT.out _ TX5.out TY5.out hB5).mono ?_; rintro e w6 ⟨rfl, hb6⟩; have HB6 := Lib.hid (HB5.out.trans (hb6.mono HB5.out.size)); have HW6 := Lib.hid (owns_under' HW5.out hb6); clear hb6 k0 k1 k2 k3 k4 k5 k6 k7 j0 j1 j2 j3 j4 j5 j6 j7 l1 l2)
    rcases ht3 with rfl | rfl | rfl
    · have hone : oneF mod a b o n = [] := by rw [oneF, HKK.out]; rfl
      have HONE := Lib.hid hone
      clear hone
      go_wp2_with fail
      exact ⟨⟨k + 1, _, rfl, by go_num, by omega, HB6.out, by rw [HNX.out, HONE.out, List.append_nil]; exact HW6.out⟩, by simp [intOf]; omega⟩
    · have hone : oneF mod a b o n = [⟨2, mod, n, o⟩] := by rw [oneF, HKK.out]; rfl
      have HONE := Lib.hid hone
      clear hone
      go_wp2_with (at_builtin; refine wpList_append_own _ rfl _ _ 79 rfl w1.heap.size 83 i0 (.agg #[.int .i64 0, .string { data := #[] }, .string { data := #[] }, .bool false]) 4 48 Tryz.underlying79 hi hz0 hz1 hz2 rfl (by decide) _ L.length (flatC L) rfl (owns_under' HW6.out ((Below.refl w6.heap.size w6).alloc (Nat.le_refl _) (.cells #[.int .i64 2, .string mod, .string n, .bool o] 83))) ⟨w6.heap.size, 0, none⟩ 1 1 (Chg.cells ⟨2, mod, n, o⟩) rfl ?qc1 ?qc2 ?qc3 ?qc4 ?qc5 ?qc6 ?_)
      case qc1 => rfl
      case qc2 =>
        intro j u hj
        rw [addN, Nat.zero_add, World.cell?_alloc_new]
        simpa [Chg.cells] using hj
      case qc3 => intro u hu; exact flatC_one [⟨2, mod, n, o⟩] u (by simpa [flatC] using hu)
      case qc4 => unfold maxLen; omega
      case qc5 => omega
      case qc6 => have := HB6.out.size; simp; omega
      intro v' w7 hown7 hgrow hnil
      have hb7 : Below w1.heap.size w1 w7 := (HB6.out.alloc HB6.out.size (.cells #[.int .i64 2, .string mod, .string n, .bool o] 83)).grown hgrow (by have := HB6.out.size; simp; omega) (fun q hq => (owns_lt' HW6.out hq).1)
      have HB7 := Lib.hid hb7
      have HW7 := Lib.hid hown7
      clear hb7 hown7 hgrow hnil
      go_wp2_with fail
      exact ⟨⟨k + 1, _, rfl, by go_num, by omega, HB7.out, by rw [HNX.out, HONE.out, flatC_push, List.length_append]; exact HW7.out⟩, by simp [intOf]; omega⟩
    · have hone : oneF mod a b o n = [⟨3, mod, n, o⟩] := by rw [oneF, HKK.out]; rfl
      have HONE := Lib.hid hone
      clear hone
      go_wp2_with (at_builtin; refine wpList_append_own _ rfl _ _ 79 rfl w1.heap.size 83 i0 (.agg #[.int .i64 0, .string { data := #[] }, .string { data := #[] }, .bool false]) 4 48 Tryz.underlying79 hi hz0 hz1 hz2 rfl (by decide) _ L.length (flatC L) rfl (owns_under' HW6.out ((Below.refl w6.heap.size w6).alloc (Nat.le_refl _) (.cells #[.int .i64 3, .string mod, .string n, .bool o] 83))) ⟨w6.heap.size, 0, none⟩ 1 1 (Chg.cells ⟨3, mod, n, o⟩) rfl ?qc1 ?qc2 ?qc3 ?qc4 ?qc5 ?qc6 ?_)
      case qc1 => rfl
      case qc2 =>
        intro j u hj
        rw [addN, Nat.zero_add, World.cell?_alloc_new]
        simpa [Chg.cells] using hj
      case qc3 => intro u hu; exact flatC_one [⟨3, mod, n, o⟩] u (by simpa [flatC] using hu)
      case qc4 => unfold maxLen; omega
      case qc5 => omega
      case qc6 => have := HB6.out.size; simp; omega
      intro v' w7 hown7 hgrow hnil
      have hb7 : Below w1.heap.size w1 w7 := (HB6.out.alloc HB6.out.size (.cells #[.int .i64 3, .string mod, .string n, .bool o] 83)).grown hgrow (by have := HB6.out.size; simp; omega) (fun q hq => (owns_lt' HW6.out hq).1)
      have HB7 := Lib.hid hb7
      have HW7 := Lib.hid hown7
      clear hb7 hown7 hgrow hnil
      go_wp2_with fail
      exact ⟨⟨k + 1, _, rfl, by go_num, by omega, HB7.out, by rw [HNX.out, HONE.out, flatC_push, List.length_append]; exact HW7.out⟩, by simp [intOf]; omega⟩
end Go.Proofs.YtjeldfipipkfiaaGreat
