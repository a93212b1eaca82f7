/- The contracts of bump.names and bump.find, at rows of named types and at rows of interfaces. -/
import Derived.Test.YtjeldfipipkfiaaGreatCatK
import Derived.Test.YtjeldfipipkfiaaGreatGShelf
import Derived.Deep.DeepCutAuto
import Derived.Deep.Cut
namespace Go.Proofs.YtjeldfipipkfiaaGreat
open Go.RowKit
set_option linter.unusedSimpArgs false
set_option linter.unusedVariables false
theorem info_strF : ((Tryz.prog).info? 9).map (fun i => (i.zero, i.size, i.bytes)) = some (some (.string { data := #[] }), 1, 16) := by kernel_rfl
theorem own_strsN {w : World} {base n : Nat} {v : Value} {l : List ByteArray} (h : w.ownsRow base 9 1 v n (l.map Value.string)) (hn : l.length = n) : ∃ A cap, v = .slice A l.length cap ∧ l.length ≤ cap ∧ StrsAt w w.heap.size A l := by
  obtain ⟨-, ⟨rfl, h0⟩ | ⟨g, cap, cur, rfl, hb, hh, hnc, hcm, hsz, htk⟩⟩ := h
  · exact ⟨none, 0, by rw [hn, h0], by omega, .inl (List.eq_nil_of_length_eq_zero (by omega))⟩
  · refine ⟨_, cap, by rw [hn], by omega, .inr ⟨g, 0, rfl, (Array.getElem?_eq_some_iff.1 hh).1, fun i hi => ?_⟩⟩
    have : (l.map Value.string)[i]? = some (.string l[i]) := by rw [List.getElem?_map, List.getElem?_eq_getElem hi]; rfl
    rw [← this, ← htk, List.getElem?_take, if_pos (by omega)]
    simp [World.cell?, hh]
theorem cellsN8 {w : World} {g : Nat} {T : TypeId} {x0 x1 x2 x3 x4 x5 x6 x7 : Value} (h : Blk w g #[x0, x1, x2, x3, x4, x5, x6, x7] T) :
    w.cell? ⟨g, 0, none⟩ = some x0 ∧ w.cell? ⟨g, 1, none⟩ = some x1 ∧ w.cell? ⟨g, 2, none⟩ = some x2 ∧ w.cell? ⟨g, 3, none⟩ = some x3 ∧ w.cell? ⟨g, 4, none⟩ = some x4 ∧ w.cell? ⟨g, 5, none⟩ = some x5 ∧ w.cell? ⟨g, 6, none⟩ = some x6 ∧ w.cell? ⟨g, 7, none⟩ = some x7 :=
  ⟨h.cell 0, h.cell 1, h.cell 2, h.cell 3, h.cell 4, h.cell 5, h.cell 6, h.cell 7⟩
theorem cellsN5 {w : World} {g : Nat} {T : TypeId} {x0 x1 x2 x3 x4 : Value} (h : Blk w g #[x0, x1, x2, x3, x4] T) :
    w.cell? ⟨g, 0, none⟩ = some x0 ∧ w.cell? ⟨g, 1, none⟩ = some x1 ∧ w.cell? ⟨g, 2, none⟩ = some x2 ∧ w.cell? ⟨g, 3, none⟩ = some x3 ∧ w.cell? ⟨g, 4, none⟩ = some x4 :=
  ⟨h.cell 0, h.cell 1, h.cell 2, h.cell 3, h.cell 4⟩
def zNm : Nm := ⟨{ data := #[] }, .mk 0 { data := #[] } 0 { data := #[] } { data := #[] } [] []⟩
def zIf : If := ⟨{ data := #[] }, 0, { data := #[] }, [], []⟩
theorem zNm_c (w : World) (B : Nat) : NmC w B zNm #[.string { data := #[] }, .int .i64 0, .string { data := #[] }, .int .i64 0, .string { data := #[] }, .string { data := #[] }, .slice none 0 0, .slice none 0 0] :=
  ⟨Nat.zero_le _, none, 0, none, 0, rfl, .mk _ none 0 none 0 (fun _ => #[]) ⟨by simp [zNm, Ty.kind], by simp [zNm, Ty.major], Nat.zero_le _, Nat.zero_le _, Nat.zero_le _, Nat.zero_le _, (fun s hs => by cases hs), Nat.zero_le _⟩ (.inl rfl) (.inl rfl) (Nat.le_refl _) (Nat.le_refl _) (fun i hi => absurd hi (by simp [zNm, Ty.subs]))⟩
theorem zIf_c (w : World) (B : Nat) : IfC w B zIf #[.string { data := #[] }, .int .i64 0, .string { data := #[] }, .slice none 0 0, .slice none 0 0] :=
  ⟨⟨Nat.zero_le _, Nat.zero_le _, by simp [zIf], Nat.zero_le _, Nat.zero_le _⟩, none, 0, none, 0, rfl, NmsAt.nil _ _ _, NmsAt.nil _ _ _, Nat.le_refl _, Nat.le_refl _⟩
theorem find_none' {α : Type} {p : α → Bool} {l : List α} (h : ∀ i (h : i < l.length), p l[i] = false) : l.find? p = none := by
  rw [List.find?_eq_none]
  intro x hx
  obtain ⟨i, hi, rfl⟩ := List.getElem_of_mem hx
  simp [h i hi]
theorem find_first {α : Type} {p : α → Bool} : ∀ {l : List α} {k : Nat} (hk : k < l.length), (∀ i (h : i < k), p (l[i]'(by omega)) = false) → p l[k] = true → l.find? p = some l[k]
  | x :: l, 0, _, _, h => by rw [List.find?_cons]; simp at h; simp [h]
  | x :: l, k + 1, hk, h, h2 => by
    have h0 := h 0 (by omega)
    simp at h0
    rw [List.find?_cons, h0]
    simp only [List.getElem_cons_succ] at h2 ⊢
    exact find_first (l := l) (k := k) (by simpa using hk) (fun i hi => by have := h (i + 1) (by omega); simpa using this) h2
theorem put8_full {w : World} {g : Nat} {T : TypeId} {a0 a1 a2 a3 a4 a5 a6 a7 : Value} (v0 v1 v2 v3 v4 v5 v6 v7 : Value) (h : Blk w g #[a0, a1, a2, a3, a4, a5, a6, a7] T) :
    Blk ((((((((w.setCell ⟨g, 0, none⟩ v0).setCell ⟨g, 1, none⟩ v1).setCell ⟨g, 2, none⟩ v2).setCell ⟨g, 3, none⟩ v3).setCell ⟨g, 4, none⟩ v4).setCell ⟨g, 5, none⟩ v5).setCell ⟨g, 6, none⟩ v6).setCell ⟨g, 7, none⟩ v7) g #[v0, v1, v2, v3, v4, v5, v6, v7] T := by
  have := (((((((h.set 0 v0).set 1 v1).set 2 v2).set 3 v3).set 4 v4).set 5 v5).set 6 v6).set 7 v7
  simpa using this
theorem put8_bel {w w1 : World} {B g : Nat} (v0 v1 v2 v3 v4 v5 v6 v7 : Value) (h : Below B w w1) (hg : B ≤ g) : Below B w ((((((((w1.setCell ⟨g, 0, none⟩ v0).setCell ⟨g, 1, none⟩ v1).setCell ⟨g, 2, none⟩ v2).setCell ⟨g, 3, none⟩ v3).setCell ⟨g, 4, none⟩ v4).setCell ⟨g, 5, none⟩ v5).setCell ⟨g, 6, none⟩ v6).setCell ⟨g, 7, none⟩ v7) :=
  (((((((h.setCell (p := ⟨g, 0, none⟩) hg v0).setCell (p := ⟨g, 1, none⟩) hg v1).setCell (p := ⟨g, 2, none⟩) hg v2).setCell (p := ⟨g, 3, none⟩) hg v3).setCell (p := ⟨g, 4, none⟩) hg v4).setCell (p := ⟨g, 5, none⟩) hg v5).setCell (p := ⟨g, 6, none⟩) hg v6).setCell (p := ⟨g, 7, none⟩) hg v7
theorem put5_full {w : World} {g : Nat} {T : TypeId} {a0 a1 a2 a3 a4 : Value} (v0 v1 v2 v3 v4 : Value) (h : Blk w g #[a0, a1, a2, a3, a4] T) :
    Blk (((((w.setCell ⟨g, 0, none⟩ v0).setCell ⟨g, 1, none⟩ v1).setCell ⟨g, 2, none⟩ v2).setCell ⟨g, 3, none⟩ v3).setCell ⟨g, 4, none⟩ v4) g #[v0, v1, v2, v3, v4] T := by
  have := ((((h.set 0 v0).set 1 v1).set 2 v2).set 3 v3).set 4 v4
  simpa using this
theorem put5_bel {w w1 : World} {B g : Nat} (v0 v1 v2 v3 v4 : Value) (h : Below B w w1) (hg : B ≤ g) : Below B w (((((w1.setCell ⟨g, 0, none⟩ v0).setCell ⟨g, 1, none⟩ v1).setCell ⟨g, 2, none⟩ v2).setCell ⟨g, 3, none⟩ v3).setCell ⟨g, 4, none⟩ v4) :=
  ((((h.setCell (p := ⟨g, 0, none⟩) hg v0).setCell (p := ⟨g, 1, none⟩) hg v1).setCell (p := ⟨g, 2, none⟩) hg v2).setCell (p := ⟨g, 3, none⟩) hg v3).setCell (p := ⟨g, 4, none⟩) hg v4
theorem owns_under' {w w' : World} {base e size n : Nat} {v : Value} {xs : List Value} (h : w.ownsRow base e size v n xs) (hb : Below w.heap.size w w') : w'.ownsRow base e size v n xs := by
  obtain ⟨h0, ⟨rfl, hn⟩ | ⟨g, cap, cur, rfl, hb1, hh, hnc, hcm, hsz, htk⟩⟩ := h
  · exact ⟨h0, .inl ⟨rfl, hn⟩⟩
  · exact ⟨h0, .inr ⟨g, cap, cur, rfl, hb1, (hb.block g (Array.getElem?_eq_some_iff.1 hh).1).trans hh, hnc, hcm, hsz, htk⟩⟩
theorem called_c (s : ByteArray) (a : Int) (p : ByteArray) (b : Int) (m n : ByteArray) (na : Option Addr) (nl nc : Nat) (sa : Option Addr) (sl sc : Nat) (w : World) : Calls Tryz.prog 119 #[.agg #[.string s, .int .i64 a, .string p, .int .i64 b, .string m, .string n, .slice na nl nc, .slice sa sl sc]] w fun e w' => e = .returned (.string s) ∧ Below w.heap.size w w' := by
  go_enter Tryz.func119, Tryz.ntmps119
  go_wp2_with fail
  go_ret
  exact ⟨rfl, (Below.refl _ _).alloc (Nat.le_refl _) _⟩
set_option maxHeartbeats 8000000 in
set_option maxRecDepth 100000 in
theorem namesNamed_c (A A' : Option Addr) (c c' B : Nat) (l l' : List Nm) (w : World) (h1 : NmsAt w B A l) (h2 : NmsAt w B A' l') (hB : B ≤ w.heap.size) (hl : l.length ≤ 1000) (hl' : l'.length ≤ 1000) :
    Calls Tryz.prog 118 #[.slice A l.length c, .slice A' l'.length c', .func (.func 119) #[] #[]] w fun e w' => ∃ A2 cap, e = .returned (.slice A2 (unionN (l.map Nm.name) (l'.map Nm.name)).length cap) ∧ (unionN (l.map Nm.name) (l'.map Nm.name)).length ≤ cap ∧ StrsAt w' w'.heap.size A2 (unionN (l.map Nm.name) (l'.map Nm.name)) ∧ Below w.heap.size w w' := by
  obtain ⟨i0, hi, hz0, hz1, hz2⟩ := info_parts info_strF
  have H1 := Lib.hid h1
  have H2 := Lib.hid h2
  obtain ⟨L, hL⟩ : ∃ L, l ++ l' = L := ⟨_, rfl⟩
  have hlen : L.length ≤ 2000 := by rw [← hL, List.length_append]; omega
  have hU : unionN (l.map Nm.name) (l'.map Nm.name) = compN (sortN (L.map Nm.name)) := by rw [unionN, ← hL, List.map_append]
  simp only [hU]
  have HLL := Lib.hid hL
  clear h1 h2 hU hL
  go_enter Tryz.func118, Tryz.ntmps118
  go_upto_region 2 with fail
  have hcat := fun w g h1 h2 hB h3 h4 h5 => catNamed_c g A A' c c' B l l' w h1 h2 hB h3 h4 h5 hl hl'
  simp only [HLL.out] at hcat
  have HC := Lib.hid hcat
  have A0 := Lib.hid ((Below.refl w.heap.size w).alloc (Nat.le_refl _) (.cells #[.slice A l.length c, .slice A' l'.length c'] 31))
  have X0 := Lib.hid (Blk.new w #[.slice A l.length c, .slice A' l'.length c'] 31)
  clear hcat
  go_wp2_with (go_at_call 156; refine (HC.out _ w.heap.size (H1.out.under (A0.out.mono hB)) (H2.out.under (A0.out.mono hB)) (Nat.le_trans hB A0.out.size) (X0.out.cell 0) (X0.out.cell 1) X0.out.lt).mono ?_; rintro e w1 ⟨A1, cap1, rfl, hcap1, hS, hb⟩; have B1 := Lib.hid (A0.out.trans (hb.mono A0.out.size)); have S1 := Lib.hid hS; clear hS hb)
  clear H1 H2 HC A0 X0
  go_loopw [7, 15] (fun v i wk => ∃ k : Nat, i = .int .i64 k ∧ k ≤ L.length ∧ Below w1.heap.size w1 wk ∧ wk.ownsRow w1.heap.size 9 1 v k (((L.map Nm.name).take k).map Value.string)) (fun _ i _ => L.length - (intOf i).toNat)
  case atStart => exact ⟨0, rfl, Nat.zero_le _, Below.refl _ _, World.ownsRow_nil _ _ _ _⟩
  case round =>
    obtain ⟨k, rfl, hk, hb, hown⟩ := hrel
    have HB := Lib.hid hb
    have HW := Lib.hid hown
    clear hb
    by_cases hlt : k < L.length
    · have hltI : (k : Int) < (L.length : Int) := by omega
      obtain ⟨x, hx⟩ : ∃ x, L[k] = x := ⟨_, rfl⟩
      obtain ⟨hns, b, o, na, nc, sa, sc, rfl, hbB, hty, c0, c1, c2, c3, c4, c5, c6, c7⟩ := (S1.out.under HB.out).elem hlt hx
      have hbw1 : b < wr.heap.size := Nat.lt_of_lt_of_le hbB HB.out.size
      have hxs : ((L.map Nm.name).take (k + 1)).map Value.string = ((L.map Nm.name).take k).map Value.string ++ [.string x.name] := by
        rw [List.take_add_one, List.getElem?_map, List.getElem?_eq_getElem hlt, hx, List.map_append]; rfl
      have HX := Lib.hid hxs
      have hCL := fun w => called_c x.name x.ty.kind x.ty.pkg x.ty.major x.ty.mod x.ty.name na x.ty.names.length nc sa x.ty.subs.length sc w
      have HCL := Lib.hid hCL
      clear hx hxs hCL hown
      go_upto_region 5 with fail
      have D0 := Lib.hid (Blk.new wr #[.string x.name, .int .i64 x.ty.kind, .string x.ty.pkg, .int .i64 x.ty.major, .string x.ty.mod, .string x.ty.name, .slice na x.ty.names.length nc, .slice sa x.ty.subs.length sc] 57)
      have HB2 := Lib.hid (HB.out.alloc HB.out.size (.cells #[.string x.name, .int .i64 x.ty.kind, .string x.ty.pkg, .int .i64 x.ty.major, .string x.ty.mod, .string x.ty.name, .slice na x.ty.names.length nc, .slice sa x.ty.subs.length sc] 57))
      have HW2 := Lib.hid (owns_under' HW.out ((Below.refl wr.heap.size wr).alloc (Nat.le_refl _) (.cells #[.string x.name, .int .i64 x.ty.kind, .string x.ty.pkg, .int .i64 x.ty.major, .string x.ty.mod, .string x.ty.name, .slice na x.ty.names.length nc, .slice sa x.ty.subs.length sc] 57)))
      generalize (wr.alloc (.cells #[.string x.name, .int .i64 x.ty.kind, .string x.ty.pkg, .int .i64 x.ty.major, .string x.ty.mod, .string x.ty.name, .slice na x.ty.names.length nc, .slice sa x.ty.subs.length sc] 57)) = w2 at D0 HB2 HW2 ⊢
      generalize wr.heap.size = gd at D0 ⊢
      obtain ⟨k0, k1, k2, k3, k4, k5, k6, k7⟩ := cellsN8 D0.out
      have ld := D0.out.lt
      clear c0 c1 c2 c3 c4 c5 c6 c7 hbw1
      go_wp2_with (first
        | (go_at_call 119; refine (HCL.out _).mono ?_; rintro e w3 ⟨rfl, hb3⟩; have HB3 := Lib.hid (HB2.out.trans (hb3.mono HB2.out.size)); have HW3 := Lib.hid (owns_under' HW2.out hb3); clear hb3 k0 k1 k2 k3 k4 k5 k6 k7 ld)
        | (at_builtin; refine wpList_append_own _ rfl _ _ 50 rfl w1.heap.size 9 i0 (.string { data := #[] }) 1 16 Tryz.underlying50 hi hz0 hz1 hz2 rfl (by decide) _ k _ rfl (owns_under' HW3.out ((Below.refl w3.heap.size w3).alloc (Nat.le_refl _) (.cells #[.string x.name] 9))) ⟨w3.heap.size, 0, none⟩ 1 1 [.string x.name] rfl ?qc1 ?qc2 ?qc3 ?qc4 ?qc5 ?qc6 ?_))
      case qc1 => rfl
      case qc2 =>
        intro j u hj
        have hj0 : j = 0 := by cases j with | zero => rfl | succ j => simp at hj
        subst hj0
        simp at hj
        subst hj
        rw [addN]
        simp
      case qc3 => intro u hu; simp at hu; subst hu; rfl
      case qc4 => unfold maxLen; omega
      case qc5 => omega
      case qc6 => have := HB3.out.size; simp; omega
      intro v' w4 hown4 hgrow hnil
      have hb4 : Below w1.heap.size w1 w4 := (HB3.out.alloc HB3.out.size (.cells #[.string x.name] 9)).grown hgrow (by have := HB3.out.size; simp; omega) (fun q hq => (owns_lt' HW3.out hq).1)
      have HB4 := Lib.hid hb4
      have HW4 := Lib.hid hown4
      clear hb4 hown4 hgrow hnil
      go_wp2_with fail
      exact ⟨⟨k + 1, by go_num, by omega, HB4.out, by rw [HX.out]; have h4 := HW4.out; rw [← List.map_map, ← List.map_take] at h4; exact h4⟩, by simp [intOf]; omega⟩
    · obtain rfl : k = L.length := by omega
      have hltI : ¬ (L.length : Int) < (L.length : Int) := by omega
      have e : (L.map Nm.name).take L.length = L.map Nm.name := by rw [List.take_of_length_le (by simp)]
      rw [e] at hown
      have HO := Lib.hid hown
      clear hown e HW
      go_wp2_with (first
        | (go_at_call 116; refine (sortU_c HO.out HB.out (by omega)).mono ?_; rintro e w5 ⟨rfl, hO2, hB2⟩; have O2 := Lib.hid hO2; have BB2 := Lib.hid hB2; clear hO2 hB2)
        | (go_at_call 117; refine (compU_c O2.out BB2.out (by omega)).mono ?_; rintro e w6 ⟨v6, rfl, hO3, hB3⟩; have O3 := Lib.hid hO3; have BB3 := Lib.hid hB3; clear hO3 hB3))
      obtain ⟨A6, cap6, hv6, hc6, hS6⟩ := own_strsN O3.out rfl
      subst hv6
      go_ret
      exact ⟨A6, cap6, rfl, hc6, hS6, B1.out.trans (BB3.out.mono B1.out.size)⟩
def firstNamed (l : List Nm) (s : ByteArray) : Option Nm := l.find? fun x => x.name.toList == s.toList
set_option maxHeartbeats 8000000 in
set_option maxRecDepth 100000 in
theorem findNamed_c (A : Option Addr) (c B : Nat) (l : List Nm) (s : ByteArray) (w : World) (h1 : NmsAt w B A l) (hB : B ≤ w.heap.size) (hl : l.length ≤ 1000) :
    Calls Tryz.prog 120 #[.slice A l.length c, .string s, .func (.func 119) #[] #[]] w fun e w' => ∃ cs, e = .returned (.tuple #[.agg cs, .bool (firstNamed l s).isSome]) ∧ NmC w' B ((firstNamed l s).getD zNm) cs ∧ Below w.heap.size w w' := by
  have H1 := Lib.hid h1
  obtain ⟨rr, hr⟩ : ∃ rr, firstNamed l s = rr := ⟨_, rfl⟩
  simp only [hr]
  have HR := Lib.hid hr
  clear h1 hr
  go_enter Tryz.func120, Tryz.ntmps120
  go_upto_region 2 with fail
  have e1 : (w.alloc (.cells #[.string { data := #[] }, .int .i64 0, .string { data := #[] }, .int .i64 0, .string { data := #[] }, .string { data := #[] }, .slice none 0 0, .slice none 0 0] 57)).heap.size = w.heap.size + 1 := by simp
  have x0 := Blk.new w #[.string { data := #[] }, .int .i64 0, .string { data := #[] }, .int .i64 0, .string { data := #[] }, .string { data := #[] }, .slice none 0 0, .slice none 0 0] 57
  have x1 := Blk.new (w.alloc (.cells #[.string { data := #[] }, .int .i64 0, .string { data := #[] }, .int .i64 0, .string { data := #[] }, .string { data := #[] }, .slice none 0 0, .slice none 0 0] 57)) #[.string { data := #[] }, .int .i64 0, .string { data := #[] }, .int .i64 0, .string { data := #[] }, .string { data := #[] }, .slice none 0 0, .slice none 0 0] 57
  have x2 := x0.alloc (.cells #[.string { data := #[] }, .int .i64 0, .string { data := #[] }, .int .i64 0, .string { data := #[] }, .string { data := #[] }, .slice none 0 0, .slice none 0 0] 57)
  have xb := ((Below.refl w.heap.size w).alloc (Nat.le_refl _) (.cells #[.string { data := #[] }, .int .i64 0, .string { data := #[] }, .int .i64 0, .string { data := #[] }, .string { data := #[] }, .slice none 0 0, .slice none 0 0] 57)).alloc (by simp) (.cells #[.string { data := #[] }, .int .i64 0, .string { data := #[] }, .int .i64 0, .string { data := #[] }, .string { data := #[] }, .slice none 0 0, .slice none 0 0] 57)
  rw [e1] at x1
  generalize ((w.alloc (.cells #[.string { data := #[] }, .int .i64 0, .string { data := #[] }, .int .i64 0, .string { data := #[] }, .string { data := #[] }, .slice none 0 0, .slice none 0 0] 57)).alloc (.cells #[.string { data := #[] }, .int .i64 0, .string { data := #[] }, .int .i64 0, .string { data := #[] }, .string { data := #[] }, .slice none 0 0, .slice none 0 0] 57)) = W at x1 x2 xb ⊢
  have X1 := Lib.hid x1
  have X2 := Lib.hid x2
  have XB := Lib.hid xb
  clear x0 x1 x2 xb e1
  go_wp2_with fail
  go_loopw [13] (fun i wk => ∃ k : Nat, i = .int .i64 k ∧ k ≤ l.length ∧ Below W.heap.size W wk ∧ ∀ i (h : i < l.length), i < k → (l[i].name.toList == s.toList) = false) (fun i _ => l.length - (intOf i).toNat)
  case atStart => exact ⟨0, rfl, Nat.zero_le _, Below.refl _ _, fun i _ hi => absurd hi (by omega)⟩
  case round =>
    obtain ⟨k, rfl, hk, hb, hall⟩ := hrel
    have HB := Lib.hid hb
    have HA := Lib.hid hall
    have Y1 := Lib.hid (X1.out.under hb X1.out.lt)
    have Y2 := Lib.hid (X2.out.under hb X2.out.lt)
    have HW := Lib.hid (XB.out.trans (hb.mono XB.out.size))
    clear hb hall
    by_cases hlt : k < l.length
    · have hltI : (k : Int) < (l.length : Int) := by omega
      obtain ⟨x, hx⟩ : ∃ x, l[k] = x := ⟨_, rfl⟩
      obtain ⟨hns, b, o, na, nc, sa, sc, rfl, hbB, hty, c0, c1, c2, c3, c4, c5, c6, c7⟩ := (H1.out.under (HW.out.mono hB)).elem hlt hx
      have hbw1 : b < wr.heap.size := by have := HW.out.size; omega
      have HXX := Lib.hid hx
      have HEL := Lib.hid (show NmC wr B x #[.string x.name, .int .i64 x.ty.kind, .string x.ty.pkg, .int .i64 x.ty.major, .string x.ty.mod, .string x.ty.name, .slice na x.ty.names.length nc, .slice sa x.ty.subs.length sc] from ⟨hns, na, nc, sa, sc, rfl, hty⟩)
      have hCL := fun w => called_c x.name x.ty.kind x.ty.pkg x.ty.major x.ty.mod x.ty.name na x.ty.names.length nc sa x.ty.subs.length sc w
      have HCL := Lib.hid hCL
      obtain ⟨t, ht⟩ : ∃ t, (x.name.toList == s.toList) = t := ⟨_, rfl⟩
      have HT := Lib.hid ht
      clear hx hCL
      go_upto_region 5 with fail
      have D0 := Lib.hid (Blk.new wr #[.string x.name, .int .i64 x.ty.kind, .string x.ty.pkg, .int .i64 x.ty.major, .string x.ty.mod, .string x.ty.name, .slice na x.ty.names.length nc, .slice sa x.ty.subs.length sc] 57)
      have HB2 := Lib.hid (HB.out.alloc HB.out.size (.cells #[.string x.name, .int .i64 x.ty.kind, .string x.ty.pkg, .int .i64 x.ty.major, .string x.ty.mod, .string x.ty.name, .slice na x.ty.names.length nc, .slice sa x.ty.subs.length sc] 57))
      generalize hw2 : (wr.alloc (.cells #[.string x.name, .int .i64 x.ty.kind, .string x.ty.pkg, .int .i64 x.ty.major, .string x.ty.mod, .string x.ty.name, .slice na x.ty.names.length nc, .slice sa x.ty.subs.length sc] 57)) = w2 at D0 HB2 ⊢
      clear hw2
      generalize wr.heap.size = gd at D0 ⊢
      obtain ⟨k0, k1, k2, k3, k4, k5, k6, k7⟩ := cellsN8 D0.out
      have ld := D0.out.lt
      clear c0 c1 c2 c3 c4 c5 c6 c7 hbw1
      cases t
      · go_wp2_with (go_at_call 119; refine (HCL.out _).mono ?_; rintro e w3 ⟨rfl, hb3⟩; have HB3 := Lib.hid (HB2.out.trans (hb3.mono HB2.out.size)); clear hb3 k0 k1 k2 k3 k4 k5 k6 k7 ld)
        exact ⟨⟨k + 1, by go_num, by omega, HB3.out, fun i hi hik => by
          by_cases e : i = k
          · subst e; rw [HXX.out]; exact HT.out
          · exact HA.out i hi (by omega)⟩, by simp [intOf]; omega⟩
      · have hfirst : firstNamed l s = some x := by
          rw [← HXX.out]
          exact find_first hlt (fun i hi => HA.out i (by omega) hi) (by rw [HXX.out]; exact HT.out)
        have hrr := HR.out.symm.trans hfirst
        subst hrr
        clear hfirst
        go_wp2_with (go_at_call 119; refine (HCL.out _).mono ?_; rintro e w3 ⟨rfl, hb3⟩; have HB3 := Lib.hid (HB2.out.trans (hb3.mono HB2.out.size)); have D3 := Lib.hid (D0.out.under hb3 D0.out.lt); clear hb3 k0 k1 k2 k3 k4 k5 k6 k7 ld; obtain ⟨k0, k1, k2, k3, k4, k5, k6, k7⟩ := cellsN8 D3.out; have ld := D3.out.lt; have Z3 := Lib.hid (X2.out.under HB3.out X2.out.lt); obtain ⟨q0, q1, q2, q3, q4, q5, q6, q7⟩ := cellsN8 Z3.out; have lz := Z3.out.lt; have f0 := Z3.out.free 0; have f1 := Z3.out.free 1; have f2 := Z3.out.free 2; have f3 := Z3.out.free 3; have f4 := Z3.out.free 4; have f5 := Z3.out.free 5; have f6 := Z3.out.free 6; have f7 := Z3.out.free 7)
        have hp := put8_full (.string x.name) (.int .i64 x.ty.kind) (.string x.ty.pkg) (.int .i64 x.ty.major) (.string x.ty.mod) (.string x.ty.name) (.slice na x.ty.names.length nc) (.slice sa x.ty.subs.length sc) Z3.out
        have hbp := put8_bel (.string x.name) (.int .i64 x.ty.kind) (.string x.ty.pkg) (.int .i64 x.ty.major) (.string x.ty.mod) (.string x.ty.name) (.slice na x.ty.names.length nc) (.slice sa x.ty.subs.length sc) (XB.out.trans (HB3.out.mono XB.out.size)) (Nat.le_refl _)
        have hel : NmC w3 B x #[.string x.name, .int .i64 x.ty.kind, .string x.ty.pkg, .int .i64 x.ty.major, .string x.ty.mod, .string x.ty.name, .slice na x.ty.names.length nc, .slice sa x.ty.subs.length sc] := by
          have hh := H1.out.under ((XB.out.trans (HB3.out.mono XB.out.size)).mono hB)
          exact HEL.out.keep fun q hq => by rw [(XB.out.trans (HB3.out.mono XB.out.size)).cell (by omega), HW.out.cell (by omega)]
        have hel2 : NmC ((((((((w3.setCell ⟨w.heap.size, 0, none⟩ (.string x.name)).setCell ⟨w.heap.size, 1, none⟩ (.int .i64 x.ty.kind)).setCell ⟨w.heap.size, 2, none⟩ (.string x.ty.pkg)).setCell ⟨w.heap.size, 3, none⟩ (.int .i64 x.ty.major)).setCell ⟨w.heap.size, 4, none⟩ (.string x.ty.mod)).setCell ⟨w.heap.size, 5, none⟩ (.string x.ty.name)).setCell ⟨w.heap.size, 6, none⟩ (.slice na x.ty.names.length nc)).setCell ⟨w.heap.size, 7, none⟩ (.slice sa x.ty.subs.length sc)) B x #[.string x.name, .int .i64 x.ty.kind, .string x.ty.pkg, .int .i64 x.ty.major, .string x.ty.mod, .string x.ty.name, .slice na x.ty.names.length nc, .slice sa x.ty.subs.length sc] := hel.keep fun q hq => by
          rw [World.cell?_setCell_other _ _ _ _ (fun e => by subst e; simp only at hq; omega), World.cell?_setCell_other _ _ _ _ (fun e => by subst e; simp only at hq; omega), World.cell?_setCell_other _ _ _ _ (fun e => by subst e; simp only at hq; omega), World.cell?_setCell_other _ _ _ _ (fun e => by subst e; simp only at hq; omega), World.cell?_setCell_other _ _ _ _ (fun e => by subst e; simp only at hq; omega), World.cell?_setCell_other _ _ _ _ (fun e => by subst e; simp only at hq; omega), World.cell?_setCell_other _ _ _ _ (fun e => by subst e; simp only at hq; omega), World.cell?_setCell_other _ _ _ _ (fun e => by subst e; simp only at hq; omega)]
        generalize ((((((((w3.setCell ⟨w.heap.size, 0, none⟩ (.string x.name)).setCell ⟨w.heap.size, 1, none⟩ (.int .i64 x.ty.kind)).setCell ⟨w.heap.size, 2, none⟩ (.string x.ty.pkg)).setCell ⟨w.heap.size, 3, none⟩ (.int .i64 x.ty.major)).setCell ⟨w.heap.size, 4, none⟩ (.string x.ty.mod)).setCell ⟨w.heap.size, 5, none⟩ (.string x.ty.name)).setCell ⟨w.heap.size, 6, none⟩ (.slice na x.ty.names.length nc)).setCell ⟨w.heap.size, 7, none⟩ (.slice sa x.ty.subs.length sc)) = Wz at hp hbp hel2 ⊢
        obtain ⟨r0, r1, r2, r3, r4, r5, r6, r7⟩ := cellsN8 hp
        refine bodyPost_ret (by simp [results, Tryz.results120, go_sem, r0, r1, r2, r3, r4, r5, r6, r7]; try rfl) rfl ?_
        exact ⟨_, rfl, hel2, hbp⟩
    · obtain rfl : k = l.length := by omega
      have hltI : ¬ (l.length : Int) < (l.length : Int) := by omega
      have hfirst : firstNamed l s = none := find_none' fun i hi => HA.out i hi hi
      have hrr := HR.out.symm.trans hfirst
      subst hrr
      obtain ⟨k0, k1, k2, k3, k4, k5, k6, k7⟩ := cellsN8 Y1.out
      have ld := Y1.out.lt
      have Z3 := Lib.hid Y2.out
      obtain ⟨q0, q1, q2, q3, q4, q5, q6, q7⟩ := cellsN8 Z3.out
      have lz := Z3.out.lt
      have f0 := Z3.out.free 0
      have f1 := Z3.out.free 1
      have f2 := Z3.out.free 2
      have f3 := Z3.out.free 3
      have f4 := Z3.out.free 4
      have f5 := Z3.out.free 5
      have f6 := Z3.out.free 6
      have f7 := Z3.out.free 7
      clear hfirst
      go_wp2_with fail
      have hp := put8_full (.string { data := #[] }) (.int .i64 0) (.string { data := #[] }) (.int .i64 0) (.string { data := #[] }) (.string { data := #[] }) (.slice none 0 0) (.slice none 0 0) Z3.out
      have hbp := put8_bel (.string { data := #[] }) (.int .i64 0) (.string { data := #[] }) (.int .i64 0) (.string { data := #[] }) (.string { data := #[] }) (.slice none 0 0) (.slice none 0 0) HW.out (Nat.le_refl _)
      generalize ((((((((wr.setCell ⟨w.heap.size, 0, none⟩ (.string { data := #[] })).setCell ⟨w.heap.size, 1, none⟩ (.int .i64 0)).setCell ⟨w.heap.size, 2, none⟩ (.string { data := #[] })).setCell ⟨w.heap.size, 3, none⟩ (.int .i64 0)).setCell ⟨w.heap.size, 4, none⟩ (.string { data := #[] })).setCell ⟨w.heap.size, 5, none⟩ (.string { data := #[] })).setCell ⟨w.heap.size, 6, none⟩ (.slice none 0 0)).setCell ⟨w.heap.size, 7, none⟩ (.slice none 0 0)) = Wz at hp hbp ⊢
      obtain ⟨r0, r1, r2, r3, r4, r5, r6, r7⟩ := cellsN8 hp
      refine bodyPost_ret (by simp [results, Tryz.results120, go_sem, r0, r1, r2, r3, r4, r5, r6, r7]; try rfl) rfl ?_
      exact ⟨_, rfl, zNm_c _ _, hbp⟩
theorem module_c (p : ByteArray) (a : Int) (s : ByteArray) (ta : Option Addr) (tl tc : Nat) (va : Option Addr) (vl vc : Nat) (w : World) : Calls Tryz.prog 66 #[.agg #[.string p, .int .i64 a, .string s, .slice ta tl tc, .slice va vl vc]] w fun e w' => e = .returned (.string s) ∧ Below w.heap.size w w' := by
  go_enter Tryz.func66, Tryz.ntmps66
  go_wp2_with fail
  go_ret
  exact ⟨rfl, (Below.refl _ _).alloc (Nat.le_refl _) _⟩
set_option maxHeartbeats 8000000 in
set_option maxRecDepth 100000 in
theorem namesIface_c (A A' : Option Addr) (c c' B : Nat) (l l' : List If) (w : World) (h1 : IfsAt w B A l) (h2 : IfsAt w B A' l') (hB : B ≤ w.heap.size) (hl : l.length ≤ 1000) (hl' : l'.length ≤ 1000) :
    Calls Tryz.prog 65 #[.slice A l.length c, .slice A' l'.length c', .func (.func 66) #[] #[]] w fun e w' => ∃ A2 cap, e = .returned (.slice A2 (unionN (l.map If.mod) (l'.map If.mod)).length cap) ∧ (unionN (l.map If.mod) (l'.map If.mod)).length ≤ cap ∧ StrsAt w' w'.heap.size A2 (unionN (l.map If.mod) (l'.map If.mod)) ∧ Below w.heap.size w w' := by
  obtain ⟨i0, hi, hz0, hz1, hz2⟩ := info_parts info_strF
  have H1 := Lib.hid h1
  have H2 := Lib.hid h2
  obtain ⟨L, hL⟩ : ∃ L, l ++ l' = L := ⟨_, rfl⟩
  have hlen : L.length ≤ 2000 := by rw [← hL, List.length_append]; omega
  have hU : unionN (l.map If.mod) (l'.map If.mod) = compN (sortN (L.map If.mod)) := by rw [unionN, ← hL, List.map_append]
  simp only [hU]
  have HLL := Lib.hid hL
  clear h1 h2 hU hL
  go_enter Tryz.func65, Tryz.ntmps65
  go_upto_region 2 with fail
  have hcat := fun w g h1 h2 hB h3 h4 h5 => catIface_c g A A' c c' B l l' w h1 h2 hB h3 h4 h5 hl hl'
  simp only [HLL.out] at hcat
  have HC := Lib.hid hcat
  have A0 := Lib.hid ((Below.refl w.heap.size w).alloc (Nat.le_refl _) (.cells #[.slice A l.length c, .slice A' l'.length c'] 26))
  have X0 := Lib.hid (Blk.new w #[.slice A l.length c, .slice A' l'.length c'] 26)
  clear hcat
  go_wp2_with (go_at_call 115; refine (HC.out _ w.heap.size (H1.out.under (A0.out.mono hB)) (H2.out.under (A0.out.mono hB)) (Nat.le_trans hB A0.out.size) (X0.out.cell 0) (X0.out.cell 1) X0.out.lt).mono ?_; rintro e w1 ⟨A1, cap1, rfl, hcap1, hS, hb⟩; have B1 := Lib.hid (A0.out.trans (hb.mono A0.out.size)); have S1 := Lib.hid hS; clear hS hb)
  clear H1 H2 HC A0 X0
  go_loopw [7, 15] (fun v i wk => ∃ k : Nat, i = .int .i64 k ∧ k ≤ L.length ∧ Below w1.heap.size w1 wk ∧ wk.ownsRow w1.heap.size 9 1 v k (((L.map If.mod).take k).map Value.string)) (fun _ i _ => L.length - (intOf i).toNat)
  case atStart => exact ⟨0, rfl, Nat.zero_le _, Below.refl _ _, World.ownsRow_nil _ _ _ _⟩
  case round =>
    obtain ⟨k, rfl, hk, hb, hown⟩ := hrel
    have HB := Lib.hid hb
    have HW := Lib.hid hown
    clear hb
    by_cases hlt : k < L.length
    · have hltI : (k : Int) < (L.length : Int) := by omega
      obtain ⟨x, hx⟩ : ∃ x, L[k] = x := ⟨_, rfl⟩
      obtain ⟨fx, b, o, ta, tc, va, vc, rfl, hbB, hT, hV, htc, hvc, c0, c1, c2, c3, c4⟩ := (S1.out.under HB.out).elem hlt hx
      have hbw1 : b < wr.heap.size := Nat.lt_of_lt_of_le hbB HB.out.size
      have hxs : ((L.map If.mod).take (k + 1)).map Value.string = ((L.map If.mod).take k).map Value.string ++ [.string x.mod] := by
        rw [List.take_add_one, List.getElem?_map, List.getElem?_eq_getElem hlt, hx, List.map_append]; rfl
      have HX := Lib.hid hxs
      have hCL := fun w => module_c x.pkg x.major x.mod ta x.types.length tc va x.vals.length vc w
      have HCL := Lib.hid hCL
      clear hx hxs hCL hown
      go_upto_region 5 with fail
      have D0 := Lib.hid (Blk.new wr #[.string x.pkg, .int .i64 x.major, .string x.mod, .slice ta x.types.length tc, .slice va x.vals.length vc] 33)
      have HB2 := Lib.hid (HB.out.alloc HB.out.size (.cells #[.string x.pkg, .int .i64 x.major, .string x.mod, .slice ta x.types.length tc, .slice va x.vals.length vc] 33))
      have HW2 := Lib.hid (owns_under' HW.out ((Below.refl wr.heap.size wr).alloc (Nat.le_refl _) (.cells #[.string x.pkg, .int .i64 x.major, .string x.mod, .slice ta x.types.length tc, .slice va x.vals.length vc] 33)))
      generalize (wr.alloc (.cells #[.string x.pkg, .int .i64 x.major, .string x.mod, .slice ta x.types.length tc, .slice va x.vals.length vc] 33)) = w2 at D0 HB2 HW2 ⊢
      generalize wr.heap.size = gd at D0 ⊢
      obtain ⟨k0, k1, k2, k3, k4⟩ := cellsN5 D0.out
      have ld := D0.out.lt
      clear c0 c1 c2 c3 c4 hbw1
      go_wp2_with (first
        | (go_at_call 66; refine (HCL.out _).mono ?_; rintro e w3 ⟨rfl, hb3⟩; have HB3 := Lib.hid (HB2.out.trans (hb3.mono HB2.out.size)); have HW3 := Lib.hid (owns_under' HW2.out hb3); clear hb3 k0 k1 k2 k3 k4 ld)
        | (at_builtin; refine wpList_append_own _ rfl _ _ 50 rfl w1.heap.size 9 i0 (.string { data := #[] }) 1 16 Tryz.underlying50 hi hz0 hz1 hz2 rfl (by decide) _ k _ rfl (owns_under' HW3.out ((Below.refl w3.heap.size w3).alloc (Nat.le_refl _) (.cells #[.string x.mod] 9))) ⟨w3.heap.size, 0, none⟩ 1 1 [.string x.mod] rfl ?qc1 ?qc2 ?qc3 ?qc4 ?qc5 ?qc6 ?_))
      case qc1 => rfl
      case qc2 =>
        intro j u hj
        have hj0 : j = 0 := by cases j with | zero => rfl | succ j => simp at hj
        subst hj0
        simp at hj
        subst hj
        rw [addN]
        simp
      case qc3 => intro u hu; simp at hu; subst hu; rfl
      case qc4 => unfold maxLen; omega
      case qc5 => omega
      case qc6 => have := HB3.out.size; simp; omega
      intro v' w4 hown4 hgrow hnil
      have hb4 : Below w1.heap.size w1 w4 := (HB3.out.alloc HB3.out.size (.cells #[.string x.mod] 9)).grown hgrow (by have := HB3.out.size; simp; omega) (fun q hq => (owns_lt' HW3.out hq).1)
      have HB4 := Lib.hid hb4
      have HW4 := Lib.hid hown4
      clear hb4 hown4 hgrow hnil
      go_wp2_with fail
      exact ⟨⟨k + 1, by go_num, by omega, HB4.out, by rw [HX.out]; have h4 := HW4.out; rw [← List.map_map, ← List.map_take] at h4; exact h4⟩, by simp [intOf]; omega⟩
    · obtain rfl : k = L.length := by omega
      have hltI : ¬ (L.length : Int) < (L.length : Int) := by omega
      have e : (L.map If.mod).take L.length = L.map If.mod := by rw [List.take_of_length_le (by simp)]
      rw [e] at hown
      have HO := Lib.hid hown
      clear hown e HW
      go_wp2_with (first
        | (go_at_call 116; refine (sortU_c HO.out HB.out (by omega)).mono ?_; rintro e w5 ⟨rfl, hO2, hB2⟩; have O2 := Lib.hid hO2; have BB2 := Lib.hid hB2; clear hO2 hB2)
        | (go_at_call 117; refine (compU_c O2.out BB2.out (by omega)).mono ?_; rintro e w6 ⟨v6, rfl, hO3, hB3⟩; have O3 := Lib.hid hO3; have BB3 := Lib.hid hB3; clear hO3 hB3))
      obtain ⟨A6, cap6, hv6, hc6, hS6⟩ := own_strsN O3.out rfl
      subst hv6
      go_ret
      exact ⟨A6, cap6, rfl, hc6, hS6, B1.out.trans (BB3.out.mono B1.out.size)⟩
def firstIface (l : List If) (s : ByteArray) : Option If := l.find? fun x => x.mod.toList == s.toList
set_option maxHeartbeats 8000000 in
set_option maxRecDepth 100000 in
theorem findIface_c (A : Option Addr) (c B : Nat) (l : List If) (s : ByteArray) (w : World) (h1 : IfsAt w B A l) (hB : B ≤ w.heap.size) (hl : l.length ≤ 1000) :
    Calls Tryz.prog 67 #[.slice A l.length c, .string s, .func (.func 66) #[] #[]] w fun e w' => ∃ cs, e = .returned (.tuple #[.agg cs, .bool (firstIface l s).isSome]) ∧ IfC w' B ((firstIface l s).getD zIf) cs ∧ Below w.heap.size w w' := by
  have H1 := Lib.hid h1
  obtain ⟨rr, hr⟩ : ∃ rr, firstIface l s = rr := ⟨_, rfl⟩
  simp only [hr]
  have HR := Lib.hid hr
  clear h1 hr
  go_enter Tryz.func67, Tryz.ntmps67
  go_upto_region 2 with fail
  have e1 : (w.alloc (.cells #[.string { data := #[] }, .int .i64 0, .string { data := #[] }, .slice none 0 0, .slice none 0 0] 33)).heap.size = w.heap.size + 1 := by simp
  have x0 := Blk.new w #[.string { data := #[] }, .int .i64 0, .string { data := #[] }, .slice none 0 0, .slice none 0 0] 33
  have x1 := Blk.new (w.alloc (.cells #[.string { data := #[] }, .int .i64 0, .string { data := #[] }, .slice none 0 0, .slice none 0 0] 33)) #[.string { data := #[] }, .int .i64 0, .string { data := #[] }, .slice none 0 0, .slice none 0 0] 33
  have x2 := x0.alloc (.cells #[.string { data := #[] }, .int .i64 0, .string { data := #[] }, .slice none 0 0, .slice none 0 0] 33)
  have xb := ((Below.refl w.heap.size w).alloc (Nat.le_refl _) (.cells #[.string { data := #[] }, .int .i64 0, .string { data := #[] }, .slice none 0 0, .slice none 0 0] 33)).alloc (by simp) (.cells #[.string { data := #[] }, .int .i64 0, .string { data := #[] }, .slice none 0 0, .slice none 0 0] 33)
  rw [e1] at x1
  generalize ((w.alloc (.cells #[.string { data := #[] }, .int .i64 0, .string { data := #[] }, .slice none 0 0, .slice none 0 0] 33)).alloc (.cells #[.string { data := #[] }, .int .i64 0, .string { data := #[] }, .slice none 0 0, .slice none 0 0] 33)) = W at x1 x2 xb ⊢
  have X1 := Lib.hid x1
  have X2 := Lib.hid x2
  have XB := Lib.hid xb
  clear x0 x1 x2 xb e1
  go_wp2_with fail
  go_loopw [13] (fun i wk => ∃ k : Nat, i = .int .i64 k ∧ k ≤ l.length ∧ Below W.heap.size W wk ∧ ∀ i (h : i < l.length), i < k → (l[i].mod.toList == s.toList) = false) (fun i _ => l.length - (intOf i).toNat)
  case atStart => exact ⟨0, rfl, Nat.zero_le _, Below.refl _ _, fun i _ hi => absurd hi (by omega)⟩
  case round =>
    obtain ⟨k, rfl, hk, hb, hall⟩ := hrel
    have HB := Lib.hid hb
    have HA := Lib.hid hall
    have Y1 := Lib.hid (X1.out.under hb X1.out.lt)
    have Y2 := Lib.hid (X2.out.under hb X2.out.lt)
    have HW := Lib.hid (XB.out.trans (hb.mono XB.out.size))
    clear hb hall
    by_cases hlt : k < l.length
    · have hltI : (k : Int) < (l.length : Int) := by omega
      obtain ⟨x, hx⟩ : ∃ x, l[k] = x := ⟨_, rfl⟩
      obtain ⟨fx, b, o, ta, tc, va, vc, rfl, hbB, hT, hV, htc, hvc, c0, c1, c2, c3, c4⟩ := (H1.out.under (HW.out.mono hB)).elem hlt hx
      have hbw1 : b < wr.heap.size := by have := HW.out.size; omega
      have HXX := Lib.hid hx
      have HEL := Lib.hid (show IfC wr B x #[.string x.pkg, .int .i64 x.major, .string x.mod, .slice ta x.types.length tc, .slice va x.vals.length vc] from ⟨fx, ta, tc, va, vc, rfl, hT, hV, htc, hvc⟩)
      have hCL := fun w => module_c x.pkg x.major x.mod ta x.types.length tc va x.vals.length vc w
      have HCL := Lib.hid hCL
      obtain ⟨t, ht⟩ : ∃ t, (x.mod.toList == s.toList) = t := ⟨_, rfl⟩
      have HT := Lib.hid ht
      clear hx hCL
      go_upto_region 5 with fail
      have D0 := Lib.hid (Blk.new wr #[.string x.pkg, .int .i64 x.major, .string x.mod, .slice ta x.types.length tc, .slice va x.vals.length vc] 33)
      have HB2 := Lib.hid (HB.out.alloc HB.out.size (.cells #[.string x.pkg, .int .i64 x.major, .string x.mod, .slice ta x.types.length tc, .slice va x.vals.length vc] 33))
      generalize hw2 : (wr.alloc (.cells #[.string x.pkg, .int .i64 x.major, .string x.mod, .slice ta x.types.length tc, .slice va x.vals.length vc] 33)) = w2 at D0 HB2 ⊢
      clear hw2
      generalize wr.heap.size = gd at D0 ⊢
      obtain ⟨k0, k1, k2, k3, k4⟩ := cellsN5 D0.out
      have ld := D0.out.lt
      clear c0 c1 c2 c3 c4 hbw1
      cases t
      · go_wp2_with (go_at_call 66; refine (HCL.out _).mono ?_; rintro e w3 ⟨rfl, hb3⟩; have HB3 := Lib.hid (HB2.out.trans (hb3.mono HB2.out.size)); clear hb3 k0 k1 k2 k3 k4 ld)
        exact ⟨⟨k + 1, by go_num, by omega, HB3.out, fun i hi hik => by
          by_cases e : i = k
          · subst e; rw [HXX.out]; exact HT.out
          · exact HA.out i hi (by omega)⟩, by simp [intOf]; omega⟩
      · have hfirst : firstIface l s = some x := by
          rw [← HXX.out]
          exact find_first hlt (fun i hi => HA.out i (by omega) hi) (by rw [HXX.out]; exact HT.out)
        have hrr := HR.out.symm.trans hfirst
        subst hrr
        clear hfirst
        go_wp2_with (go_at_call 66; refine (HCL.out _).mono ?_; rintro e w3 ⟨rfl, hb3⟩; have HB3 := Lib.hid (HB2.out.trans (hb3.mono HB2.out.size)); have D3 := Lib.hid (D0.out.under hb3 D0.out.lt); clear hb3 k0 k1 k2 k3 k4 ld; obtain ⟨k0, k1, k2, k3, k4⟩ := cellsN5 D3.out; have ld := D3.out.lt; have Z3 := Lib.hid (X2.out.under HB3.out X2.out.lt); obtain ⟨q0, q1, q2, q3, q4⟩ := cellsN5 Z3.out; have lz := Z3.out.lt; have f0 := Z3.out.free 0; have f1 := Z3.out.free 1; have f2 := Z3.out.free 2; have f3 := Z3.out.free 3; have f4 := Z3.out.free 4)
        have hp := put5_full (.string x.pkg) (.int .i64 x.major) (.string x.mod) (.slice ta x.types.length tc) (.slice va x.vals.length vc) Z3.out
        have hbp := put5_bel (.string x.pkg) (.int .i64 x.major) (.string x.mod) (.slice ta x.types.length tc) (.slice va x.vals.length vc) (XB.out.trans (HB3.out.mono XB.out.size)) (Nat.le_refl _)
        have hel : IfC w3 B x #[.string x.pkg, .int .i64 x.major, .string x.mod, .slice ta x.types.length tc, .slice va x.vals.length vc] := by
          have hh := H1.out.under ((XB.out.trans (HB3.out.mono XB.out.size)).mono hB)
          exact HEL.out.keep fun q hq => by rw [(XB.out.trans (HB3.out.mono XB.out.size)).cell (by omega), HW.out.cell (by omega)]
        have hel2 : IfC (((((w3.setCell ⟨w.heap.size, 0, none⟩ (.string x.pkg)).setCell ⟨w.heap.size, 1, none⟩ (.int .i64 x.major)).setCell ⟨w.heap.size, 2, none⟩ (.string x.mod)).setCell ⟨w.heap.size, 3, none⟩ (.slice ta x.types.length tc)).setCell ⟨w.heap.size, 4, none⟩ (.slice va x.vals.length vc)) B x #[.string x.pkg, .int .i64 x.major, .string x.mod, .slice ta x.types.length tc, .slice va x.vals.length vc] := hel.keep fun q hq => by
          rw [World.cell?_setCell_other _ _ _ _ (fun e => by subst e; simp only at hq; omega), World.cell?_setCell_other _ _ _ _ (fun e => by subst e; simp only at hq; omega), World.cell?_setCell_other _ _ _ _ (fun e => by subst e; simp only at hq; omega), World.cell?_setCell_other _ _ _ _ (fun e => by subst e; simp only at hq; omega), World.cell?_setCell_other _ _ _ _ (fun e => by subst e; simp only at hq; omega)]
        generalize (((((w3.setCell ⟨w.heap.size, 0, none⟩ (.string x.pkg)).setCell ⟨w.heap.size, 1, none⟩ (.int .i64 x.major)).setCell ⟨w.heap.size, 2, none⟩ (.string x.mod)).setCell ⟨w.heap.size, 3, none⟩ (.slice ta x.types.length tc)).setCell ⟨w.heap.size, 4, none⟩ (.slice va x.vals.length vc)) = Wz at hp hbp hel2 ⊢
        obtain ⟨r0, r1, r2, r3, r4⟩ := cellsN5 hp
        refine bodyPost_ret (by simp [results, Tryz.results67, go_sem, r0, r1, r2, r3, r4]; try rfl) rfl ?_
        exact ⟨_, rfl, hel2, hbp⟩
    · obtain rfl : k = l.length := by omega
      have hltI : ¬ (l.length : Int) < (l.length : Int) := by omega
      have hfirst : firstIface l s = none := find_none' fun i hi => HA.out i hi hi
      have hrr := HR.out.symm.trans hfirst
      subst hrr
      obtain ⟨k0, k1, k2, k3, k4⟩ := cellsN5 Y1.out
      have ld := Y1.out.lt
      have Z3 := Lib.hid Y2.out
      obtain ⟨q0, q1, q2, q3, q4⟩ := cellsN5 Z3.out
      have lz := Z3.out.lt
      have f0 := Z3.out.free 0
      have f1 := Z3.out.free 1
      have f2 := Z3.out.free 2
      have f3 := Z3.out.free 3
      have f4 := Z3.out.free 4
      clear hfirst
      go_wp2_with fail
      have hp := put5_full (.string { data := #[] }) (.int .i64 0) (.string { data := #[] }) (.slice none 0 0) (.slice none 0 0) Z3.out
      have hbp := put5_bel (.string { data := #[] }) (.int .i64 0) (.string { data := #[] }) (.slice none 0 0) (.slice none 0 0) HW.out (Nat.le_refl _)
      generalize (((((wr.setCell ⟨w.heap.size, 0, none⟩ (.string { data := #[] })).setCell ⟨w.heap.size, 1, none⟩ (.int .i64 0)).setCell ⟨w.heap.size, 2, none⟩ (.string { data := #[] })).setCell ⟨w.heap.size, 3, none⟩ (.slice none 0 0)).setCell ⟨w.heap.size, 4, none⟩ (.slice none 0 0)) = Wz at hp hbp ⊢
      obtain ⟨r0, r1, r2, r3, r4⟩ := cellsN5 hp
      refine bodyPost_ret (by simp [results, Tryz.results67, go_sem, r0, r1, r2, r3, r4]; try rfl) rfl ?_
      exact ⟨_, rfl, zIf_c _ _, hbp⟩
end Go.Proofs.YtjeldfipipkfiaaGreat
