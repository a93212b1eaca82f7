/- The contracts of iface.alike, of slices.EqualFunc at named types, and of iface.Same. -/
import Derived.Test.YtjeldfipipkfiaaGreatGIf
import Derived.Test.YtjeldfipipkfiaaGreatGKind
namespace Go.Proofs.YtjeldfipipkfiaaGreat
open Go.RowKit
set_option linter.unusedSimpArgs false
set_option linter.unusedVariables false
def aliN (x y : Nm) : Bool := (x.name.toList == y.name.toList) && (mayT x.ty && mayT y.ty && alikeT x.ty y.ty)
def aliNs : List Nm → List Nm → Bool
  | [], [] => true
  | x :: l, y :: m => aliN x y && aliNs l m
  | _, _ => false
theorem aliNs_len : ∀ {l m : List Nm}, l.length ≠ m.length → aliNs l m = false
  | [], [], h => absurd rfl h
  | [], _ :: _, _ => rfl
  | _ :: _, [], _ => rfl
  | s :: l, t :: m, h => by rw [aliNs, aliNs_len (l := l) (m := m) (by simpa using h), Bool.and_false]
theorem aliNs_drop {l m : List Nm} {k : Nat} (h1 : k < l.length) (h2 : k < m.length) : aliNs (l.drop k) (m.drop k) = (aliN l[k] m[k] && aliNs (l.drop (k + 1)) (m.drop (k + 1))) := by
  rw [List.drop_eq_getElem_cons h1, List.drop_eq_getElem_cons h2, aliNs]
theorem aliNs_same : ∀ {l m : List Nm}, (∀ n ∈ l, mayT n.ty = true) → (∀ n ∈ m, mayT n.ty = true) → aliNs l m = sameN l m
  | [], [], _, _ => rfl
  | [], _ :: _, _, _ => rfl
  | _ :: _, [], _, _ => rfl
  | x :: l, y :: m, h1, h2 => by
    rw [aliNs, sameN, aliN, h1 x (by simp), h2 y (by simp), aliNs_same (fun n hn => h1 n (by simp [hn])) (fun n hn => h2 n (by simp [hn]))]
    simp [Bool.and_assoc]
theorem named_may {p : ByteArray → Bool} {l : List Nm} (h : namedB p l = true) : ∀ n ∈ l, mayT n.ty = true := by
  intro n hn
  obtain ⟨i, hi, rfl⟩ := List.getElem_of_mem hn
  rw [namedB, List.all_eq_true] at h
  have := h i (List.mem_range.2 hi)
  rw [nmOk, dif_pos hi] at this
  simp only [Bool.and_eq_true] at this
  have h2 := this.2.2
  rw [PlainB, Bool.and_eq_true] at h2
  exact h2.1
set_option maxRecDepth 100000 in
set_option maxHeartbeats 8000000 in
theorem aliN_c (x y : Nm) (cs cs' : Array Value) (B : Nat) (w : World) (hx : NmC w B x cs) (hy : NmC w B y cs') (hB : B ≤ w.heap.size) :
    Calls Tryz.prog 35 #[.agg cs, .agg cs'] w fun e w' => e = .returned (.bool (aliN x y)) ∧ Below w.heap.size w w' := by
  obtain ⟨-, na, nc, sa, sc, rfl, ht⟩ := hx
  obtain ⟨-, na2, nc2, sa2, sc2, rfl, ht2⟩ := hy
  have hs := fun W (hb : Below w.heap.size w W) => Same_c x.ty y.ty _ _ B W (ht.under (hb.mono hB)) (ht2.under (hb.mono hB)) (Nat.le_trans hB hb.size)
  simp only [tyCells] at hs
  obtain ⟨q, hq⟩ : ∃ q, (mayT x.ty && mayT y.ty && alikeT x.ty y.ty) = q := ⟨_, rfl⟩
  obtain ⟨p, hp⟩ : ∃ p, (x.name.toList == y.name.toList) = p := ⟨_, rfl⟩
  have hr : aliN x y = (p && q) := by rw [aliN, hq, hp]
  simp only [hq] at hs
  rw [hr]
  have HS := Lib.hid hs
  clear hs hq hr ht ht2
  simp only [nmCells]
  go_enter Tryz.func35, Tryz.ntmps35
  go_upto_region 1 with fail
  obtain ⟨W, hWq, d0, d1, hz, hb⟩ := twoIX w #[.string x.name, .int .i64 x.ty.kind, .string x.ty.pkg, .int .i64 x.ty.major, .string x.ty.mod, .string x.ty.name, .slice na x.ty.names.length nc, .slice sa x.ty.subs.length sc] #[.string y.name, .int .i64 y.ty.kind, .string y.ty.pkg, .int .i64 y.ty.major, .string y.ty.mod, .string y.ty.name, .slice na2 y.ty.names.length nc2, .slice sa2 y.ty.subs.length sc2] 57 57
  rewrite [← hWq]; clear hWq
  have BC := Lib.hid hb
  obtain ⟨k0, k1, k2, k3, k4, k5, k6, k7⟩ := cells8 d0
  have kl := d0.lt
  obtain ⟨c0, c1, c2, c3, c4, c5, c6, c7⟩ := cells8 d1
  have cl := d1.lt
  clear d0 d1 hb hz
  cases p
  · go_wp2_with fail
    go_ret
    exact ⟨rfl, BC.out⟩
  · go_wp2_with (go_at_call 63; refine (HS.out _ BC.out).mono ?_; rintro e w1 ⟨rfl, hb⟩; have B1 := Lib.hid (BC.out.trans (hb.mono BC.out.size)); clear hb)
    go_ret
    exact ⟨by simp, B1.out⟩
set_option maxRecDepth 100000 in
set_option maxHeartbeats 8000000 in
theorem eqNs_c (A A' : Option Addr) (c c' B : Nat) (l m : List Nm) (w : World) (hl : l.length ≤ maxLen) (hB : B ≤ w.heap.size) (h : NmsAt w B A l) (h' : NmsAt w B A' m) :
    Calls Tryz.prog 34 #[.slice A l.length c, .slice A' m.length c', .func (.func 35) #[] #[]] w fun e w' => e = .returned (.bool (aliNs l m)) ∧ Below w.heap.size w w' := by
  unfold maxLen at hl
  have H := Lib.hid h
  have H' := Lib.hid h'
  clear h h'
  by_cases he : l.length = m.length
  · rw [← he]
    have HE := Lib.hid he
    clear he
    go_enter Tryz.func34, Tryz.ntmps34
    go_wp2_with fail
    go_loopw [17] (fun i w1 => ∃ k : Nat, k ≤ l.length ∧ i = .int .i64 k ∧ Below w.heap.size w w1 ∧ aliNs (l.drop k) (m.drop k) = aliNs l m) (fun i _ => l.length - (intOf i).toNat)
    case atStart => exact ⟨0, Nat.zero_le _, rfl, Below.refl _ _, rfl⟩
    case round =>
      rename World => wr
      obtain ⟨k, hk, rfl, hbr, heq⟩ := hrel
      have HQ := Lib.hid heq
      have BR := Lib.hid hbr
      clear heq hbr
      have hk0 : (0 : Int) ≤ (k : Int) := by omega
      have hsz := BR.out.size
      by_cases hlt : k < l.length
      · have hltm : k < m.length := by have := HE.out; omega
        obtain ⟨n, hn⟩ : ∃ n, l[k] = n := ⟨_, rfl⟩
        obtain ⟨n2, hn2⟩ : ∃ n, m[k] = n := ⟨_, rfl⟩
        obtain ⟨hz1, b, o, na1, nc1, sa1, sc1, hA, hbl, ht1, c0, c1, c2, c3, c4, c5, c6, c7⟩ := (H.out.under (BR.out.mono hB)).elem hlt hn
        obtain ⟨hz2, b2, o2, na2, nc2, sa2, sc2, hA2, hbl2, ht2, d0, d1, d2, d3, d4, d5, d6, d7⟩ := (H'.out.under (BR.out.mono hB)).elem hltm hn2
        obtain rfl := hA
        obtain rfl := hA2
        have hltI : (k : Int) < (l.length : Int) := by omega
        have lb : b < wr.heap.size := by omega
        have lb2 : b2 < wr.heap.size := by omega
        have hBr : B ≤ wr.heap.size := by omega
        have hc := fun W2 (hb : Below wr.heap.size wr W2) => aliN_c n n2 _ _ B W2 (NmC.keep (⟨hz1, na1, nc1, sa1, sc1, rfl, ht1⟩ : NmC wr B n _) fun p hp => hb.cell (by omega)) (NmC.keep (⟨hz2, na2, nc2, sa2, sc2, rfl, ht2⟩ : NmC wr B n2 _) fun p hp => hb.cell (by omega)) (Nat.le_trans hBr hb.size)
        simp only [nmCells] at hc
        obtain ⟨q, hq⟩ : ∃ q, aliN n n2 = q := ⟨_, rfl⟩
        have hd := aliNs_drop hlt hltm
        rw [hn, hn2, hq, HQ.out] at hd
        have HD := Lib.hid hd
        simp only [hq] at hc
        have HC := Lib.hid hc
        clear hc hd hq hn hn2 ht1 ht2 hz1 hz2
        go_upto_region 7 with fail
        obtain ⟨W, hWq, e0, e1, hz, hb⟩ := twoIX wr #[.string n.name, .int .i64 n.ty.kind, .string n.ty.pkg, .int .i64 n.ty.major, .string n.ty.mod, .string n.ty.name, .slice na1 n.ty.names.length nc1, .slice sa1 n.ty.subs.length sc1] #[.string n2.name, .int .i64 n2.ty.kind, .string n2.ty.pkg, .int .i64 n2.ty.major, .string n2.ty.mod, .string n2.ty.name, .slice na2 n2.ty.names.length nc2, .slice sa2 n2.ty.subs.length sc2] 57 57
        rewrite [← hWq]; clear hWq
        have BC := Lib.hid hb
        obtain ⟨k0, k1, k2, k3, k4, k5, k6, k7⟩ := cells8 e0
        have kl := e0.lt
        obtain ⟨g0, g1, g2, g3, g4, g5, g6, g7⟩ := cells8 e1
        have gl := e1.lt
        clear e0 e1 hb hz c0 c1 c2 c3 c4 c5 c6 c7 d0 d1 d2 d3 d4 d5 d6 d7
        cases q
        · go_wp2_with (go_at_call 35; refine (HC.out _ BC.out).mono ?_; rintro e w1 ⟨rfl, hb⟩; have B1 := Lib.hid (BR.out.trans ((BC.out.trans (hb.mono BC.out.size)).mono BR.out.size)); clear hb)
          go_ret
          exact ⟨ret_b (show false = aliNs l m by have := HD.out; rw [Bool.false_and] at this; exact this.symm), B1.out⟩
        · have HN := Lib.hid (show aliNs (l.drop (k + 1)) (m.drop (k + 1)) = aliNs l m by have := HD.out; rw [Bool.true_and] at this; exact this.symm)
          go_wp2_with (go_at_call 35; refine (HC.out _ BC.out).mono ?_; rintro e w1 ⟨rfl, hb⟩; have B1 := Lib.hid (BR.out.trans ((BC.out.trans (hb.mono BC.out.size)).mono BR.out.size)); clear hb)
          first
            | exact ⟨⟨k + 1, by omega, by go_num, B1.out, HN.out⟩, by simp [intOf]; omega⟩
            | (go_roundw
               case rel => exact ⟨k + 1, by omega, by go_num, B1.out, HN.out⟩
               case measure => simp [intOf]; omega)
      · obtain rfl : k = l.length := by omega
        have hltI : ¬ (l.length : Int) < (l.length : Int) := by omega
        go_wp2_with fail
        go_ret
        exact ⟨ret_b (show true = aliNs l m by rw [← HQ.out, List.drop_length, HE.out, List.drop_length]; rfl), BR.out⟩
  · have hneb : ((l.length : Int) == (m.length : Int)) = false := by simp; omega
    have HE := Lib.hid he
    clear he
    go_enter Tryz.func34, Tryz.ntmps34
    go_wp2_with fail
    go_ret
    exact ⟨ret_b (aliNs_len HE.out).symm, Below.refl _ _⟩
def sameJ (x y : If) : Bool := imayB x && (imayB y && sameI x y)
set_option maxRecDepth 100000 in
set_option maxHeartbeats 40000000 in
theorem ifSame_c (x y : If) (ta : Option Addr) (tc : Nat) (va : Option Addr) (vc : Nat) (ta' : Option Addr) (tc' : Nat) (va' : Option Addr) (vc' B : Nat) (w : World) (hf : IfFits x) (hf' : IfFits y) (ht : NmsAt w B ta x.types) (hv : NmsAt w B va x.vals) (ht' : NmsAt w B ta' y.types) (hv' : NmsAt w B va' y.vals) (hB : B ≤ w.heap.size) :
    Calls Tryz.prog 15 #[.agg (ifCells x ta tc va vc), .agg (ifCells y ta' tc' va' vc')] w fun e w' => e = .returned (.bool (sameJ x y)) ∧ Below w.heap.size w w' := by
  have hm1 := fun W (hb : Below w.heap.size w W) => ifMay_c x ta tc va vc B W hf (ht.under (hb.mono hB)) (hv.under (hb.mono hB)) (Nat.le_trans hB hb.size)
  have hm2 := fun W (hb : Below w.heap.size w W) => ifMay_c y ta' tc' va' vc' B W hf' (ht'.under (hb.mono hB)) (hv'.under (hb.mono hB)) (Nat.le_trans hB hb.size)
  have hT := fun W (hb : Below w.heap.size w W) => eqNs_c ta ta' tc tc' B x.types y.types W hf.types (Nat.le_trans hB hb.size) (ht.under (hb.mono hB)) (ht'.under (hb.mono hB))
  have hV := fun W (hb : Below w.heap.size w W) => eqNs_c va va' vc vc' B x.vals y.vals W hf.vals (Nat.le_trans hB hb.size) (hv.under (hb.mono hB)) (hv'.under (hb.mono hB))
  obtain ⟨p1, g1⟩ : ∃ q, imayB x = q := ⟨_, rfl⟩
  obtain ⟨p2, g2⟩ : ∃ q, imayB y = q := ⟨_, rfl⟩
  obtain ⟨q1, h1⟩ : ∃ q, (x.pkg.toList == y.pkg.toList) = q := ⟨_, rfl⟩
  obtain ⟨q2, h2⟩ : ∃ q, (x.major == y.major) = q := ⟨_, rfl⟩
  obtain ⟨q3, h3⟩ : ∃ q, (x.mod.toList == y.mod.toList) = q := ⟨_, rfl⟩
  obtain ⟨q4, h4⟩ : ∃ q, aliNs x.types y.types = q := ⟨_, rfl⟩
  obtain ⟨q5, h5⟩ : ∃ q, aliNs x.vals y.vals = q := ⟨_, rfl⟩
  have hr : sameJ x y = (p1 && (p2 && (q1 && (q2 && (q3 && (q4 && q5)))))) := by
    rw [sameJ, g1, g2]
    cases p1
    · rfl
    cases p2
    · rfl
    have e1 : aliNs x.types y.types = sameN x.types y.types := by
      simp only [imayB, Bool.and_eq_true] at g1 g2
      exact aliNs_same (named_may g1.2.2.2.2.1) (named_may g2.2.2.2.2.1)
    have e2 : aliNs x.vals y.vals = sameN x.vals y.vals := by
      simp only [imayB, Bool.and_eq_true] at g1 g2
      exact aliNs_same (named_may g1.2.2.2.2.2) (named_may g2.2.2.2.2.2)
    rw [sameI, h1, h2, h3, ← e1, ← e2, h4, h5]
  rw [hr]
  simp only [g1, ifCells] at hm1
  simp only [g2, ifCells] at hm2
  simp only [h4] at hT
  simp only [h5] at hV
  have HM1 := Lib.hid hm1
  have HM2 := Lib.hid hm2
  have HT := Lib.hid hT
  have HV := Lib.hid hV
  clear g1 g2 h4 h5 hr ht hv ht' hv' hf hf' hm1 hm2 hT hV
  go_enter Tryz.func15, Tryz.ntmps15
  simp only [ifCells]
  go_upto_region 1 with fail
  obtain ⟨W, hWq, d0, d1, hz, hb⟩ := twoIX w #[.string x.pkg, .int .i64 x.major, .string x.mod, .slice ta x.types.length tc, .slice va x.vals.length vc] #[.string y.pkg, .int .i64 y.major, .string y.mod, .slice ta' y.types.length tc', .slice va' y.vals.length vc'] 33 33
  rewrite [← hWq]; clear hWq
  have BC := Lib.hid hb
  have D0 := Lib.hid d0
  have D1 := Lib.hid d1
  clear hb d0 d1 hz
  obtain ⟨e0, e1, e2, e3, e4⟩ := cells5 D0.out
  have el := D0.out.lt
  obtain ⟨o0, o1, o2, o3, o4⟩ := cells5 D1.out
  have ol := D1.out.lt
  cases p1
  · go_wp2_with (first
      | (go_at_call 12; have hno := M1; refine (HM2.out _ BC.out).mono ?_; rintro e wn ⟨rfl, hb⟩; have D0 := Lib.hid (D0.out.under hb D0.out.lt); have D1 := Lib.hid (D1.out.under hb D1.out.lt); have BC := Lib.hid (BC.out.trans (hb.mono BC.out.size)); clear hb e0 e1 e2 e3 e4 el o0 o1 o2 o3 o4 ol; obtain ⟨e0, e1, e2, e3, e4⟩ := cells5 D0.out; have el := D0.out.lt; obtain ⟨o0, o1, o2, o3, o4⟩ := cells5 D1.out; have ol := D1.out.lt)
      | (go_at_call 12; refine (HM1.out _ BC.out).mono ?_; rintro e wn ⟨rfl, hb⟩; have M1 := True.intro; have D0 := Lib.hid (D0.out.under hb D0.out.lt); have D1 := Lib.hid (D1.out.under hb D1.out.lt); have BC := Lib.hid (BC.out.trans (hb.mono BC.out.size)); clear hb e0 e1 e2 e3 e4 el o0 o1 o2 o3 o4 ol; obtain ⟨e0, e1, e2, e3, e4⟩ := cells5 D0.out; have el := D0.out.lt; obtain ⟨o0, o1, o2, o3, o4⟩ := cells5 D1.out; have ol := D1.out.lt)
      | (go_at_call 34; have hno := T1; refine (HV.out _ BC.out).mono ?_; rintro e wn ⟨rfl, hb⟩; have D0 := Lib.hid (D0.out.under hb D0.out.lt); have D1 := Lib.hid (D1.out.under hb D1.out.lt); have BC := Lib.hid (BC.out.trans (hb.mono BC.out.size)); clear hb e0 e1 e2 e3 e4 el o0 o1 o2 o3 o4 ol; obtain ⟨e0, e1, e2, e3, e4⟩ := cells5 D0.out; have el := D0.out.lt; obtain ⟨o0, o1, o2, o3, o4⟩ := cells5 D1.out; have ol := D1.out.lt)
      | (go_at_call 34; refine (HT.out _ BC.out).mono ?_; rintro e wn ⟨rfl, hb⟩; have T1 := True.intro; have D0 := Lib.hid (D0.out.under hb D0.out.lt); have D1 := Lib.hid (D1.out.under hb D1.out.lt); have BC := Lib.hid (BC.out.trans (hb.mono BC.out.size)); clear hb e0 e1 e2 e3 e4 el o0 o1 o2 o3 o4 ol; obtain ⟨e0, e1, e2, e3, e4⟩ := cells5 D0.out; have el := D0.out.lt; obtain ⟨o0, o1, o2, o3, o4⟩ := cells5 D1.out; have ol := D1.out.lt))
    go_ret
    exact ⟨rfl, BC.out⟩
  cases p2
  · go_wp2_with (first
      | (go_at_call 12; have hno := M1; refine (HM2.out _ BC.out).mono ?_; rintro e wn ⟨rfl, hb⟩; have D0 := Lib.hid (D0.out.under hb D0.out.lt); have D1 := Lib.hid (D1.out.under hb D1.out.lt); have BC := Lib.hid (BC.out.trans (hb.mono BC.out.size)); clear hb e0 e1 e2 e3 e4 el o0 o1 o2 o3 o4 ol; obtain ⟨e0, e1, e2, e3, e4⟩ := cells5 D0.out; have el := D0.out.lt; obtain ⟨o0, o1, o2, o3, o4⟩ := cells5 D1.out; have ol := D1.out.lt)
      | (go_at_call 12; refine (HM1.out _ BC.out).mono ?_; rintro e wn ⟨rfl, hb⟩; have M1 := True.intro; have D0 := Lib.hid (D0.out.under hb D0.out.lt); have D1 := Lib.hid (D1.out.under hb D1.out.lt); have BC := Lib.hid (BC.out.trans (hb.mono BC.out.size)); clear hb e0 e1 e2 e3 e4 el o0 o1 o2 o3 o4 ol; obtain ⟨e0, e1, e2, e3, e4⟩ := cells5 D0.out; have el := D0.out.lt; obtain ⟨o0, o1, o2, o3, o4⟩ := cells5 D1.out; have ol := D1.out.lt)
      | (go_at_call 34; have hno := T1; refine (HV.out _ BC.out).mono ?_; rintro e wn ⟨rfl, hb⟩; have D0 := Lib.hid (D0.out.under hb D0.out.lt); have D1 := Lib.hid (D1.out.under hb D1.out.lt); have BC := Lib.hid (BC.out.trans (hb.mono BC.out.size)); clear hb e0 e1 e2 e3 e4 el o0 o1 o2 o3 o4 ol; obtain ⟨e0, e1, e2, e3, e4⟩ := cells5 D0.out; have el := D0.out.lt; obtain ⟨o0, o1, o2, o3, o4⟩ := cells5 D1.out; have ol := D1.out.lt)
      | (go_at_call 34; refine (HT.out _ BC.out).mono ?_; rintro e wn ⟨rfl, hb⟩; have T1 := True.intro; have D0 := Lib.hid (D0.out.under hb D0.out.lt); have D1 := Lib.hid (D1.out.under hb D1.out.lt); have BC := Lib.hid (BC.out.trans (hb.mono BC.out.size)); clear hb e0 e1 e2 e3 e4 el o0 o1 o2 o3 o4 ol; obtain ⟨e0, e1, e2, e3, e4⟩ := cells5 D0.out; have el := D0.out.lt; obtain ⟨o0, o1, o2, o3, o4⟩ := cells5 D1.out; have ol := D1.out.lt))
    go_ret
    exact ⟨rfl, BC.out⟩
  cases q1
  · go_wp2_with (first
      | (go_at_call 12; have hno := M1; refine (HM2.out _ BC.out).mono ?_; rintro e wn ⟨rfl, hb⟩; have D0 := Lib.hid (D0.out.under hb D0.out.lt); have D1 := Lib.hid (D1.out.under hb D1.out.lt); have BC := Lib.hid (BC.out.trans (hb.mono BC.out.size)); clear hb e0 e1 e2 e3 e4 el o0 o1 o2 o3 o4 ol; obtain ⟨e0, e1, e2, e3, e4⟩ := cells5 D0.out; have el := D0.out.lt; obtain ⟨o0, o1, o2, o3, o4⟩ := cells5 D1.out; have ol := D1.out.lt)
      | (go_at_call 12; refine (HM1.out _ BC.out).mono ?_; rintro e wn ⟨rfl, hb⟩; have M1 := True.intro; have D0 := Lib.hid (D0.out.under hb D0.out.lt); have D1 := Lib.hid (D1.out.under hb D1.out.lt); have BC := Lib.hid (BC.out.trans (hb.mono BC.out.size)); clear hb e0 e1 e2 e3 e4 el o0 o1 o2 o3 o4 ol; obtain ⟨e0, e1, e2, e3, e4⟩ := cells5 D0.out; have el := D0.out.lt; obtain ⟨o0, o1, o2, o3, o4⟩ := cells5 D1.out; have ol := D1.out.lt)
      | (go_at_call 34; have hno := T1; refine (HV.out _ BC.out).mono ?_; rintro e wn ⟨rfl, hb⟩; have D0 := Lib.hid (D0.out.under hb D0.out.lt); have D1 := Lib.hid (D1.out.under hb D1.out.lt); have BC := Lib.hid (BC.out.trans (hb.mono BC.out.size)); clear hb e0 e1 e2 e3 e4 el o0 o1 o2 o3 o4 ol; obtain ⟨e0, e1, e2, e3, e4⟩ := cells5 D0.out; have el := D0.out.lt; obtain ⟨o0, o1, o2, o3, o4⟩ := cells5 D1.out; have ol := D1.out.lt)
      | (go_at_call 34; refine (HT.out _ BC.out).mono ?_; rintro e wn ⟨rfl, hb⟩; have T1 := True.intro; have D0 := Lib.hid (D0.out.under hb D0.out.lt); have D1 := Lib.hid (D1.out.under hb D1.out.lt); have BC := Lib.hid (BC.out.trans (hb.mono BC.out.size)); clear hb e0 e1 e2 e3 e4 el o0 o1 o2 o3 o4 ol; obtain ⟨e0, e1, e2, e3, e4⟩ := cells5 D0.out; have el := D0.out.lt; obtain ⟨o0, o1, o2, o3, o4⟩ := cells5 D1.out; have ol := D1.out.lt))
    go_ret
    exact ⟨rfl, BC.out⟩
  cases q2
  · go_wp2_with (first
      | (go_at_call 12; have hno := M1; refine (HM2.out _ BC.out).mono ?_; rintro e wn ⟨rfl, hb⟩; have D0 := Lib.hid (D0.out.under hb D0.out.lt); have D1 := Lib.hid (D1.out.under hb D1.out.lt); have BC := Lib.hid (BC.out.trans (hb.mono BC.out.size)); clear hb e0 e1 e2 e3 e4 el o0 o1 o2 o3 o4 ol; obtain ⟨e0, e1, e2, e3, e4⟩ := cells5 D0.out; have el := D0.out.lt; obtain ⟨o0, o1, o2, o3, o4⟩ := cells5 D1.out; have ol := D1.out.lt)
      | (go_at_call 12; refine (HM1.out _ BC.out).mono ?_; rintro e wn ⟨rfl, hb⟩; have M1 := True.intro; have D0 := Lib.hid (D0.out.under hb D0.out.lt); have D1 := Lib.hid (D1.out.under hb D1.out.lt); have BC := Lib.hid (BC.out.trans (hb.mono BC.out.size)); clear hb e0 e1 e2 e3 e4 el o0 o1 o2 o3 o4 ol; obtain ⟨e0, e1, e2, e3, e4⟩ := cells5 D0.out; have el := D0.out.lt; obtain ⟨o0, o1, o2, o3, o4⟩ := cells5 D1.out; have ol := D1.out.lt)
      | (go_at_call 34; have hno := T1; refine (HV.out _ BC.out).mono ?_; rintro e wn ⟨rfl, hb⟩; have D0 := Lib.hid (D0.out.under hb D0.out.lt); have D1 := Lib.hid (D1.out.under hb D1.out.lt); have BC := Lib.hid (BC.out.trans (hb.mono BC.out.size)); clear hb e0 e1 e2 e3 e4 el o0 o1 o2 o3 o4 ol; obtain ⟨e0, e1, e2, e3, e4⟩ := cells5 D0.out; have el := D0.out.lt; obtain ⟨o0, o1, o2, o3, o4⟩ := cells5 D1.out; have ol := D1.out.lt)
      | (go_at_call 34; refine (HT.out _ BC.out).mono ?_; rintro e wn ⟨rfl, hb⟩; have T1 := True.intro; have D0 := Lib.hid (D0.out.under hb D0.out.lt); have D1 := Lib.hid (D1.out.under hb D1.out.lt); have BC := Lib.hid (BC.out.trans (hb.mono BC.out.size)); clear hb e0 e1 e2 e3 e4 el o0 o1 o2 o3 o4 ol; obtain ⟨e0, e1, e2, e3, e4⟩ := cells5 D0.out; have el := D0.out.lt; obtain ⟨o0, o1, o2, o3, o4⟩ := cells5 D1.out; have ol := D1.out.lt))
    go_ret
    exact ⟨rfl, BC.out⟩
  cases q3
  · go_wp2_with (first
      | (go_at_call 12; have hno := M1; refine (HM2.out _ BC.out).mono ?_; rintro e wn ⟨rfl, hb⟩; have D0 := Lib.hid (D0.out.under hb D0.out.lt); have D1 := Lib.hid (D1.out.under hb D1.out.lt); have BC := Lib.hid (BC.out.trans (hb.mono BC.out.size)); clear hb e0 e1 e2 e3 e4 el o0 o1 o2 o3 o4 ol; obtain ⟨e0, e1, e2, e3, e4⟩ := cells5 D0.out; have el := D0.out.lt; obtain ⟨o0, o1, o2, o3, o4⟩ := cells5 D1.out; have ol := D1.out.lt)
      | (go_at_call 12; refine (HM1.out _ BC.out).mono ?_; rintro e wn ⟨rfl, hb⟩; have M1 := True.intro; have D0 := Lib.hid (D0.out.under hb D0.out.lt); have D1 := Lib.hid (D1.out.under hb D1.out.lt); have BC := Lib.hid (BC.out.trans (hb.mono BC.out.size)); clear hb e0 e1 e2 e3 e4 el o0 o1 o2 o3 o4 ol; obtain ⟨e0, e1, e2, e3, e4⟩ := cells5 D0.out; have el := D0.out.lt; obtain ⟨o0, o1, o2, o3, o4⟩ := cells5 D1.out; have ol := D1.out.lt)
      | (go_at_call 34; have hno := T1; refine (HV.out _ BC.out).mono ?_; rintro e wn ⟨rfl, hb⟩; have D0 := Lib.hid (D0.out.under hb D0.out.lt); have D1 := Lib.hid (D1.out.under hb D1.out.lt); have BC := Lib.hid (BC.out.trans (hb.mono BC.out.size)); clear hb e0 e1 e2 e3 e4 el o0 o1 o2 o3 o4 ol; obtain ⟨e0, e1, e2, e3, e4⟩ := cells5 D0.out; have el := D0.out.lt; obtain ⟨o0, o1, o2, o3, o4⟩ := cells5 D1.out; have ol := D1.out.lt)
      | (go_at_call 34; refine (HT.out _ BC.out).mono ?_; rintro e wn ⟨rfl, hb⟩; have T1 := True.intro; have D0 := Lib.hid (D0.out.under hb D0.out.lt); have D1 := Lib.hid (D1.out.under hb D1.out.lt); have BC := Lib.hid (BC.out.trans (hb.mono BC.out.size)); clear hb e0 e1 e2 e3 e4 el o0 o1 o2 o3 o4 ol; obtain ⟨e0, e1, e2, e3, e4⟩ := cells5 D0.out; have el := D0.out.lt; obtain ⟨o0, o1, o2, o3, o4⟩ := cells5 D1.out; have ol := D1.out.lt))
    go_ret
    exact ⟨rfl, BC.out⟩
  cases q4
  · go_wp2_with (first
      | (go_at_call 12; have hno := M1; refine (HM2.out _ BC.out).mono ?_; rintro e wn ⟨rfl, hb⟩; have D0 := Lib.hid (D0.out.under hb D0.out.lt); have D1 := Lib.hid (D1.out.under hb D1.out.lt); have BC := Lib.hid (BC.out.trans (hb.mono BC.out.size)); clear hb e0 e1 e2 e3 e4 el o0 o1 o2 o3 o4 ol; obtain ⟨e0, e1, e2, e3, e4⟩ := cells5 D0.out; have el := D0.out.lt; obtain ⟨o0, o1, o2, o3, o4⟩ := cells5 D1.out; have ol := D1.out.lt)
      | (go_at_call 12; refine (HM1.out _ BC.out).mono ?_; rintro e wn ⟨rfl, hb⟩; have M1 := True.intro; have D0 := Lib.hid (D0.out.under hb D0.out.lt); have D1 := Lib.hid (D1.out.under hb D1.out.lt); have BC := Lib.hid (BC.out.trans (hb.mono BC.out.size)); clear hb e0 e1 e2 e3 e4 el o0 o1 o2 o3 o4 ol; obtain ⟨e0, e1, e2, e3, e4⟩ := cells5 D0.out; have el := D0.out.lt; obtain ⟨o0, o1, o2, o3, o4⟩ := cells5 D1.out; have ol := D1.out.lt)
      | (go_at_call 34; have hno := T1; refine (HV.out _ BC.out).mono ?_; rintro e wn ⟨rfl, hb⟩; have D0 := Lib.hid (D0.out.under hb D0.out.lt); have D1 := Lib.hid (D1.out.under hb D1.out.lt); have BC := Lib.hid (BC.out.trans (hb.mono BC.out.size)); clear hb e0 e1 e2 e3 e4 el o0 o1 o2 o3 o4 ol; obtain ⟨e0, e1, e2, e3, e4⟩ := cells5 D0.out; have el := D0.out.lt; obtain ⟨o0, o1, o2, o3, o4⟩ := cells5 D1.out; have ol := D1.out.lt)
      | (go_at_call 34; refine (HT.out _ BC.out).mono ?_; rintro e wn ⟨rfl, hb⟩; have T1 := True.intro; have D0 := Lib.hid (D0.out.under hb D0.out.lt); have D1 := Lib.hid (D1.out.under hb D1.out.lt); have BC := Lib.hid (BC.out.trans (hb.mono BC.out.size)); clear hb e0 e1 e2 e3 e4 el o0 o1 o2 o3 o4 ol; obtain ⟨e0, e1, e2, e3, e4⟩ := cells5 D0.out; have el := D0.out.lt; obtain ⟨o0, o1, o2, o3, o4⟩ := cells5 D1.out; have ol := D1.out.lt))
    go_ret
    exact ⟨rfl, BC.out⟩
  cases q5
  · go_wp2_with (first
      | (go_at_call 12; have hno := M1; refine (HM2.out _ BC.out).mono ?_; rintro e wn ⟨rfl, hb⟩; have D0 := Lib.hid (D0.out.under hb D0.out.lt); have D1 := Lib.hid (D1.out.under hb D1.out.lt); have BC := Lib.hid (BC.out.trans (hb.mono BC.out.size)); clear hb e0 e1 e2 e3 e4 el o0 o1 o2 o3 o4 ol; obtain ⟨e0, e1, e2, e3, e4⟩ := cells5 D0.out; have el := D0.out.lt; obtain ⟨o0, o1, o2, o3, o4⟩ := cells5 D1.out; have ol := D1.out.lt)
      | (go_at_call 12; refine (HM1.out _ BC.out).mono ?_; rintro e wn ⟨rfl, hb⟩; have M1 := True.intro; have D0 := Lib.hid (D0.out.under hb D0.out.lt); have D1 := Lib.hid (D1.out.under hb D1.out.lt); have BC := Lib.hid (BC.out.trans (hb.mono BC.out.size)); clear hb e0 e1 e2 e3 e4 el o0 o1 o2 o3 o4 ol; obtain ⟨e0, e1, e2, e3, e4⟩ := cells5 D0.out; have el := D0.out.lt; obtain ⟨o0, o1, o2, o3, o4⟩ := cells5 D1.out; have ol := D1.out.lt)
      | (go_at_call 34; have hno := T1; refine (HV.out _ BC.out).mono ?_; rintro e wn ⟨rfl, hb⟩; have D0 := Lib.hid (D0.out.under hb D0.out.lt); have D1 := Lib.hid (D1.out.under hb D1.out.lt); have BC := Lib.hid (BC.out.trans (hb.mono BC.out.size)); clear hb e0 e1 e2 e3 e4 el o0 o1 o2 o3 o4 ol; obtain ⟨e0, e1, e2, e3, e4⟩ := cells5 D0.out; have el := D0.out.lt; obtain ⟨o0, o1, o2, o3, o4⟩ := cells5 D1.out; have ol := D1.out.lt)
      | (go_at_call 34; refine (HT.out _ BC.out).mono ?_; rintro e wn ⟨rfl, hb⟩; have T1 := True.intro; have D0 := Lib.hid (D0.out.under hb D0.out.lt); have D1 := Lib.hid (D1.out.under hb D1.out.lt); have BC := Lib.hid (BC.out.trans (hb.mono BC.out.size)); clear hb e0 e1 e2 e3 e4 el o0 o1 o2 o3 o4 ol; obtain ⟨e0, e1, e2, e3, e4⟩ := cells5 D0.out; have el := D0.out.lt; obtain ⟨o0, o1, o2, o3, o4⟩ := cells5 D1.out; have ol := D1.out.lt))
    go_ret
    exact ⟨rfl, BC.out⟩
  go_wp2_with (first
    | (go_at_call 12; have hno := M1; refine (HM2.out _ BC.out).mono ?_; rintro e wn ⟨rfl, hb⟩; have D0 := Lib.hid (D0.out.under hb D0.out.lt); have D1 := Lib.hid (D1.out.under hb D1.out.lt); have BC := Lib.hid (BC.out.trans (hb.mono BC.out.size)); clear hb e0 e1 e2 e3 e4 el o0 o1 o2 o3 o4 ol; obtain ⟨e0, e1, e2, e3, e4⟩ := cells5 D0.out; have el := D0.out.lt; obtain ⟨o0, o1, o2, o3, o4⟩ := cells5 D1.out; have ol := D1.out.lt)
    | (go_at_call 12; refine (HM1.out _ BC.out).mono ?_; rintro e wn ⟨rfl, hb⟩; have M1 := True.intro; have D0 := Lib.hid (D0.out.under hb D0.out.lt); have D1 := Lib.hid (D1.out.under hb D1.out.lt); have BC := Lib.hid (BC.out.trans (hb.mono BC.out.size)); clear hb e0 e1 e2 e3 e4 el o0 o1 o2 o3 o4 ol; obtain ⟨e0, e1, e2, e3, e4⟩ := cells5 D0.out; have el := D0.out.lt; obtain ⟨o0, o1, o2, o3, o4⟩ := cells5 D1.out; have ol := D1.out.lt)
    | (go_at_call 34; have hno := T1; refine (HV.out _ BC.out).mono ?_; rintro e wn ⟨rfl, hb⟩; have D0 := Lib.hid (D0.out.under hb D0.out.lt); have D1 := Lib.hid (D1.out.under hb D1.out.lt); have BC := Lib.hid (BC.out.trans (hb.mono BC.out.size)); clear hb e0 e1 e2 e3 e4 el o0 o1 o2 o3 o4 ol; obtain ⟨e0, e1, e2, e3, e4⟩ := cells5 D0.out; have el := D0.out.lt; obtain ⟨o0, o1, o2, o3, o4⟩ := cells5 D1.out; have ol := D1.out.lt)
    | (go_at_call 34; refine (HT.out _ BC.out).mono ?_; rintro e wn ⟨rfl, hb⟩; have T1 := True.intro; have D0 := Lib.hid (D0.out.under hb D0.out.lt); have D1 := Lib.hid (D1.out.under hb D1.out.lt); have BC := Lib.hid (BC.out.trans (hb.mono BC.out.size)); clear hb e0 e1 e2 e3 e4 el o0 o1 o2 o3 o4 ol; obtain ⟨e0, e1, e2, e3, e4⟩ := cells5 D0.out; have el := D0.out.lt; obtain ⟨o0, o1, o2, o3, o4⟩ := cells5 D1.out; have ol := D1.out.lt))
  go_ret
  exact ⟨rfl, BC.out⟩
end Go.Proofs.YtjeldfipipkfiaaGreat
