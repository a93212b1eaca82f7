/- merlonref01.Parse at any text. -/
import Derived.Test.YtlpgkldialmofaaGreatDoorPrintV
import Derived.Deep.DeepCutAuto
import Derived.Deep.Cut
namespace Go.Proofs.YtlpgkldialmofaaGreatDoor
open Go.RowKit
set_option linter.unusedSimpArgs false
set_option linter.unusedVariables false
theorem drop_consV {s : ByteArray} {k : Nat} (hk : k < s.size) : s.data.toList.drop k = s[k] :: s.data.toList.drop (k + 1) := by
  have h : k < s.data.toList.length := by rw [len_dataV]; exact hk
  rw [List.drop_eq_getElem_cons h]
  rfl
/-- what the loop holds behind i bytes -/
structure ScanRel (s : ByteArray) (k x y z i : Nat) : Prop where
  le : i ≤ s.size
  k2 : k ≤ 2
  x9 : x ≤ 999999999
  y9 : y ≤ 999999999
  z9 : z ≤ 999999999
  scan : scanF 0 0 0 0 s.data.toList = scanF k x y z (s.data.toList.drop i)
theorem ScanRel.start (s : ByteArray) : ScanRel s 0 0 0 0 0 := ⟨by omega, by omega, by omega, by omega, by omega, by rw [List.drop_zero]⟩
theorem ScanRel.done {s : ByteArray} {k x y z : Nat} (h : ScanRel s k x y z s.size) : scanF 0 0 0 0 s.data.toList = some (x, y, z) := by
  rw [h.scan, List.drop_eq_nil_of_le (by rw [len_dataV]; omega)]; rfl
theorem ScanRel.dot {s : ByteArray} {k x y z i : Nat} (h : ScanRel s k x y z i) (hi : i < s.size) (hc : s[i].toNat = 46) (hk : k < 2) : ScanRel s (k + 1) x y z (i + 1) := by
  have e : s[i] = 46 := UInt8.toNat_inj.1 hc
  exact ⟨hi, by omega, h.x9, h.y9, h.z9, by rw [h.scan, drop_consV hi, scanF, if_pos e, if_neg (by omega)]⟩
theorem ScanRel.dotBad {s : ByteArray} {k x y z i : Nat} (h : ScanRel s k x y z i) (hi : i < s.size) (hc : s[i].toNat = 46) (hk : ¬ k < 2) : scanF 0 0 0 0 s.data.toList = none := by
  have e : s[i] = 46 := UInt8.toNat_inj.1 hc
  rw [h.scan, drop_consV hi, scanF, if_pos e, if_pos (by omega)]
theorem bytes_eqV (x y : ByteArray) : (x.toList = y.toList) = (x = y) := by
  rw [ByteArray.toList_eq, ByteArray.toList_eq]
  exact propext ⟨fun h => ByteArray.ext (Array.toList_inj.mp h), fun h => by rw [h]⟩
theorem not46 {c : UInt8} (h : ¬ c.toNat = 46) : ¬ c = 46 := fun e => h (by rw [e]; rfl)
theorem ScanRel.bad {s : ByteArray} {k x y z i : Nat} (h : ScanRel s k x y z i) (hi : i < s.size) (hc : ¬ s[i].toNat = 46) (hb : ¬ (digB s[i] = true ∧ (if k = 0 then x else if k = 1 then y else z) ≤ 99999999)) : scanF 0 0 0 0 s.data.toList = none := by
  rw [h.scan, drop_consV hi, scanF, if_neg (not46 hc), if_neg hb]
theorem ScanRel.dig0 {s : ByteArray} {x y z i : Nat} (h : ScanRel s 0 x y z i) (hi : i < s.size) (hc : ¬ s[i].toNat = 46) (hd : digB s[i] = true) (hx : x ≤ 99999999) : ScanRel s 0 (10 * x + (s[i].toNat - 48)) y z (i + 1) := by
  have hb := digB_iff.1 hd
  exact ⟨hi, by omega, by omega, h.y9, h.z9, by rw [h.scan, drop_consV hi, scanF, if_neg (not46 hc), if_pos ⟨hd, hx⟩, if_pos rfl]⟩
theorem ScanRel.dig1 {s : ByteArray} {x y z i : Nat} (h : ScanRel s 1 x y z i) (hi : i < s.size) (hc : ¬ s[i].toNat = 46) (hd : digB s[i] = true) (hx : y ≤ 99999999) : ScanRel s 1 x (10 * y + (s[i].toNat - 48)) z (i + 1) := by
  have hb := digB_iff.1 hd
  exact ⟨hi, by omega, h.x9, by omega, h.z9, by rw [h.scan, drop_consV hi, scanF, if_neg (not46 hc), if_pos ⟨hd, hx⟩, if_neg (by decide), if_pos rfl]⟩
theorem ScanRel.dig2 {s : ByteArray} {x y z i : Nat} (h : ScanRel s 2 x y z i) (hi : i < s.size) (hc : ¬ s[i].toNat = 46) (hd : digB s[i] = true) (hx : z ≤ 99999999) : ScanRel s 2 x y (10 * z + (s[i].toNat - 48)) (i + 1) := by
  have hb := digB_iff.1 hd
  exact ⟨hi, by omega, h.x9, h.y9, by omega, by rw [h.scan, drop_consV hi, scanF, if_neg (not46 hc), if_pos ⟨hd, hx⟩, if_neg (by decide), if_neg (by decide)]⟩
theorem ref_none {s : ByteArray} (h : 40 < s.size ∨ scanF 0 0 0 0 s.data.toList = none) : parseF s.data.toList = none := by
  rw [← ref_parse, refParseF, len_dataV]
  by_cases h4 : 40 < s.size
  · rw [if_pos h4]
  · rw [if_neg h4, h.resolve_left h4]
theorem ref_some {s : ByteArray} {x y z : Nat} (h4 : ¬ 40 < s.size) (h : scanF 0 0 0 0 s.data.toList = some (x, y, z)) : parseF s.data.toList = if mayB x y z = true ∧ verS x y z = s then some ((x : Int), (y : Int), (z : Int)) else none := by
  rw [← ref_parse, refParseF, len_dataV, if_neg h4, h]
  simp only [okF_may]
  have e : verS x y z = s ↔ textF x y z = s.data.toList := by
    rw [← show (verS x y z).data.toList = textF x y z by rw [verS_data]; rfl]
    exact ⟨fun h => by rw [h], fun h => ByteArray.ext (Array.toList_inj.mp h)⟩
  simp only [e]
set_option maxRecDepth 100000 in
set_option maxHeartbeats 40000000 in
theorem refParse_c (s : ByteArray) (w : World) : Calls Tryz.prog 19 #[.string s] w fun e w' => e = .returned (.tuple #[.agg (ver (parV s.data.toList).1 (parV s.data.toList).2.1 (parV s.data.toList).2.2), .bool (parseF s.data.toList).isSome]) ∧ Below w.heap.size w w' := by
  obtain ⟨V, hV⟩ : ∃ V, parV s.data.toList = V := ⟨_, rfl⟩
  obtain ⟨O, hO⟩ : ∃ V, (parseF s.data.toList).isSome = V := ⟨_, rfl⟩
  rw [hV, hO]
  have HV := Lib.hid hV
  have HO := Lib.hid hO
  clear hV hO
  go_enter Tryz.func19, Tryz.ntmps19
  by_cases h40 : 40 < s.size
  · have hnone := ref_none (.inl h40)
    have e1 : V = (0, 0, 0) := by rw [← HV.out, parV, hnone]; rfl
    have e2 : O = false := by rw [← HO.out, hnone]; rfl
    subst e1 e2
    have h40I : (40 : Int) < (s.size : Int) := by omega
    go_wp2_with fail
    refine bodyPost_ret (by simp [results, Tryz.results19, go_sem]; try rfl) rfl ?_
    exact ⟨rfl, (Below.refl _ _).alloc (Nat.le_refl _) _⟩
  have h40I : ¬ (40 : Int) < (s.size : Int) := by omega
  go_upto_region 3 with fail
  have hz := Blk.new w #[.int .i64 0, .int .i64 0, .int .i64 0] 24
  have hb := (Below.refl w.heap.size w).alloc (Nat.le_refl _) (.cells #[.int .i64 0, .int .i64 0, .int .i64 0] 24)
  have hs1 : (w.alloc (.cells #[.int .i64 0, .int .i64 0, .int .i64 0] 24)).heap.size = w.heap.size + 1 := by simp
  generalize (w.alloc (.cells #[.int .i64 0, .int .i64 0, .int .i64 0] 24)) = W at hz hb hs1 ⊢
  go_upto_region 4 with fail
  have hl := Blk.new W #[.int .i64 0, .int .i64 0, .int .i64 0] 3
  have hz2 := hz.alloc (.cells #[.int .i64 0, .int .i64 0, .int .i64 0] 3)
  have hb2 := hb.alloc (by omega) (.cells #[.int .i64 0, .int .i64 0, .int .i64 0] 3)
  rw [hs1] at hl
  generalize (W.alloc (.cells #[.int .i64 0, .int .i64 0, .int .i64 0] 3)) = W2 at hl hz2 hb2 ⊢
  clear hz hb hs1
  go_wp2_with fail
  go_loopw [5, 6] (fun kv iv wr => ∃ (i k x y z : Nat), kv = .int .i64 k ∧ iv = .int .i64 i ∧ ScanRel s k x y z i ∧ Blk wr (w.heap.size + 1) #[.int .i64 (x : Int), .int .i64 (y : Int), .int .i64 (z : Int)] 3 ∧ Blk wr w.heap.size #[.int .i64 0, .int .i64 0, .int .i64 0] 24 ∧ Below w.heap.size w wr) (fun _ iv _ => s.size - (intOf iv).toNat)
  case atStart => exact ⟨0, 0, 0, 0, 0, rfl, rfl, ScanRel.start s, hl, hz2, hb2⟩
  case round =>
    obtain ⟨i, k, x, y, z, rfl, rfl, hrel, hl, hz, hb⟩ := hrel
    have his := hrel.le
    have hk2 := hrel.k2
    have hx9 := hrel.x9
    have hy9 := hrel.y9
    have hz9 := hrel.z9
    have HRL := Lib.hid hrel
    have HL := Lib.hid hl
    have HZ := Lib.hid hz
    have HB := Lib.hid hb
    clear hrel hl hz hb
    by_cases hlt : i < s.size
    · have hltI : (i : Int) < (s.size : Int) := by omega
      by_cases h46 : s[i].toNat = 46
      · have h46I : ((s[i].toNat : Int) == 46) = true := by rw [h46]; rfl
        by_cases hk : k < 2
        · have HR2 := Lib.hid (HRL.out.dot hlt h46 hk)
          have hkI : ¬ (2 : Int) < (k : Int) + 1 := by omega
          clear h46
          go_wp2_with fail
          exact ⟨⟨i + 1, k + 1, x, y, z, by go_num, by go_num, HR2.out, HL.out, HZ.out, HB.out⟩, by simp [intOf]; omega⟩
        · have hnone := ref_none (.inr (HRL.out.dotBad hlt h46 hk))
          have e1 : V = (0, 0, 0) := by rw [← HV.out, parV, hnone]; rfl
          have e2 : O = false := by rw [← HO.out, hnone]; rfl
          subst e1 e2
          have hkI : (2 : Int) < (k : Int) + 1 := by omega
          obtain ⟨q0, q1, q2⟩ := cells3 HZ.out
          have f0 := HZ.out.free 0
          have f1 := HZ.out.free 1
          have f2 := HZ.out.free 2
          have lz := HZ.out.lt
          clear h46
          go_wp2_with fail
          have hp := put3_full (.int .i64 0) (.int .i64 0) (.int .i64 0) HZ.out
          have hbp := put3_bel (.int .i64 0) (.int .i64 0) (.int .i64 0) HB.out (Nat.le_refl _)
          generalize (((wr.setCell ⟨w.heap.size, 0, none⟩ (.int .i64 0)).setCell ⟨w.heap.size, 1, none⟩ (.int .i64 0)).setCell ⟨w.heap.size, 2, none⟩ (.int .i64 0)) = Wz at hp hbp ⊢
          obtain ⟨r0, r1, r2⟩ := cells3 hp
          refine bodyPost_ret (by simp [results, Tryz.results19, go_sem, r0, r1, r2]; try rfl) rfl ?_
          exact ⟨rfl, hbp⟩
      have h46I : ((s[i].toNat : Int) == 46) = false := by simp; omega
      by_cases hgood : digB s[i] = true ∧ (if k = 0 then x else if k = 1 then y else z) ≤ 99999999
      rotate_left
      · as_aux_lemma =>
          have hnone := ref_none (.inr (HRL.out.bad hlt h46 hgood))
          have e1 : V = (0, 0, 0) := by rw [← HV.out, parV, hnone]; rfl
          have e2 : O = false := by rw [← HO.out, hnone]; rfl
          subst e1 e2
          obtain ⟨q0, q1, q2⟩ := cells3 HZ.out
          have f0 := HZ.out.free 0
          have f1 := HZ.out.free 1
          have f2 := HZ.out.free 2
          have lz := HZ.out.lt
          obtain ⟨c0, c1, c2⟩ := cells3 HL.out
          by_cases hlo : 48 ≤ (s[i].toNat : Int)
          rotate_left
          · go_wp2_with fail
            have hp := put3_full (.int .i64 0) (.int .i64 0) (.int .i64 0) HZ.out
            have hbp := put3_bel (.int .i64 0) (.int .i64 0) (.int .i64 0) HB.out (Nat.le_refl _)
            generalize (((wr.setCell ⟨w.heap.size, 0, none⟩ (.int .i64 0)).setCell ⟨w.heap.size, 1, none⟩ (.int .i64 0)).setCell ⟨w.heap.size, 2, none⟩ (.int .i64 0)) = Wz at hp hbp ⊢
            obtain ⟨r0, r1, r2⟩ := cells3 hp
            refine bodyPost_ret (by simp [results, Tryz.results19, go_sem, r0, r1, r2]; try rfl) rfl ?_
            exact ⟨rfl, hbp⟩
          by_cases hhi : (s[i].toNat : Int) ≤ 57
          rotate_left
          · go_wp2_with fail
            have hp := put3_full (.int .i64 0) (.int .i64 0) (.int .i64 0) HZ.out
            have hbp := put3_bel (.int .i64 0) (.int .i64 0) (.int .i64 0) HB.out (Nat.le_refl _)
            generalize (((wr.setCell ⟨w.heap.size, 0, none⟩ (.int .i64 0)).setCell ⟨w.heap.size, 1, none⟩ (.int .i64 0)).setCell ⟨w.heap.size, 2, none⟩ (.int .i64 0)) = Wz at hp hbp ⊢
            obtain ⟨r0, r1, r2⟩ := cells3 hp
            refine bodyPost_ret (by simp [results, Tryz.results19, go_sem, r0, r1, r2]; try rfl) rfl ?_
            exact ⟨rfl, hbp⟩
          have hd : digB s[i] = true := digB_iff.2 ⟨hlo, hhi⟩
          have hk3 : (k : Int) < 3 := by omega
          rcases (show k = 0 ∨ k = 1 ∨ k = 2 by omega) with rfl | rfl | rfl
          · have hle : ¬ (x : Int) ≤ 99999999 := fun h => hgood ⟨hd, by simp; omega⟩
            clear hgood hd
            go_wp2_with fail
            have hp := put3_full (.int .i64 0) (.int .i64 0) (.int .i64 0) HZ.out
            have hbp := put3_bel (.int .i64 0) (.int .i64 0) (.int .i64 0) HB.out (Nat.le_refl _)
            generalize (((wr.setCell ⟨w.heap.size, 0, none⟩ (.int .i64 0)).setCell ⟨w.heap.size, 1, none⟩ (.int .i64 0)).setCell ⟨w.heap.size, 2, none⟩ (.int .i64 0)) = Wz at hp hbp ⊢
            obtain ⟨r0, r1, r2⟩ := cells3 hp
            refine bodyPost_ret (by simp [results, Tryz.results19, go_sem, r0, r1, r2]; try rfl) rfl ?_
            exact ⟨rfl, hbp⟩
          · have hle : ¬ (y : Int) ≤ 99999999 := fun h => hgood ⟨hd, by simp; omega⟩
            clear hgood hd
            go_wp2_with fail
            have hp := put3_full (.int .i64 0) (.int .i64 0) (.int .i64 0) HZ.out
            have hbp := put3_bel (.int .i64 0) (.int .i64 0) (.int .i64 0) HB.out (Nat.le_refl _)
            generalize (((wr.setCell ⟨w.heap.size, 0, none⟩ (.int .i64 0)).setCell ⟨w.heap.size, 1, none⟩ (.int .i64 0)).setCell ⟨w.heap.size, 2, none⟩ (.int .i64 0)) = Wz at hp hbp ⊢
            obtain ⟨r0, r1, r2⟩ := cells3 hp
            refine bodyPost_ret (by simp [results, Tryz.results19, go_sem, r0, r1, r2]; try rfl) rfl ?_
            exact ⟨rfl, hbp⟩
          · have hle : ¬ (z : Int) ≤ 99999999 := fun h => hgood ⟨hd, by simp; omega⟩
            clear hgood hd
            go_wp2_with fail
            have hp := put3_full (.int .i64 0) (.int .i64 0) (.int .i64 0) HZ.out
            have hbp := put3_bel (.int .i64 0) (.int .i64 0) (.int .i64 0) HB.out (Nat.le_refl _)
            generalize (((wr.setCell ⟨w.heap.size, 0, none⟩ (.int .i64 0)).setCell ⟨w.heap.size, 1, none⟩ (.int .i64 0)).setCell ⟨w.heap.size, 2, none⟩ (.int .i64 0)) = Wz at hp hbp ⊢
            obtain ⟨r0, r1, r2⟩ := cells3 hp
            refine bodyPost_ret (by simp [results, Tryz.results19, go_sem, r0, r1, r2]; try rfl) rfl ?_
            exact ⟨rfl, hbp⟩
      obtain ⟨hd, hle⟩ := hgood
      rcases (show k = 0 ∨ k = 1 ∨ k = 2 by omega) with rfl | rfl | rfl
      · as_aux_lemma =>
          simp at hle
          have HR2 := Lib.hid (HRL.out.dig0 hlt h46 hd hle)
          obtain ⟨hlo, hhi⟩ := digB_iff.1 hd
          clear hd
          obtain ⟨X, hX⟩ : ∃ X : Int, (s[i].toNat : Int) = X := ⟨_, rfl⟩
          obtain ⟨nv, hnv⟩ : ∃ nv : Nat, 10 * x + (s[i].toNat - 48) = nv := ⟨_, rfl⟩
          have hlo2 : 48 ≤ X := by omega
          have hhi2 : X ≤ 57 := by omega
          have hleI : (x : Int) ≤ 99999999 := by omega
          have h46c : (X == 46) = false := by simp; omega
          have hw1 : IntKind.i64.wrap X = X := by rw [IntKind.wrap_i64]; omega
          have hw2 : IntKind.i64.wrap (10 * (x : Int)) = 10 * (x : Int) := by rw [IntKind.wrap_i64]; omega
          have hw3 : IntKind.i64.wrap (10 * (x : Int) + X) = 10 * (x : Int) + X := by rw [IntKind.wrap_i64]; omega
          have hw4 : IntKind.i64.wrap (10 * (x : Int) + X - 48) = 10 * (x : Int) + X - 48 := by rw [IntKind.wrap_i64]; omega
          have hnvI : 10 * (x : Int) + X - 48 = (nv : Int) := by omega
          have hwn : IntKind.i64.wrap (nv : Int) = (nv : Int) := by rw [IntKind.wrap_i64]; omega
          rw [hnv] at HR2
          obtain ⟨c0, c1, c2⟩ := cells3 HL.out
          have g0 := HL.out.free 0
          clear hlo hhi
          go_upto_region 11 with fail
          refine wp_region_until [(14, fun w' => w'.cell? ⟨w.heap.size + 1, 0, none⟩ = some (.int .i64 (x : Int)))] (by kernel_rfl) (Until.cons (fun _ => HL.out.drew.cell 0) Until.nil) (fun hU => ?_)
          refine AnyU.take (i := 0) (v := ?_) rfl (by kernel_rfl) (by kernel_rfl) (by kernel_rfl) (fun _ _ _ h => h) (by kernel_rfl) (by assumption) (by rfl) ?_ (fun hV => ?_)
          rotate_left 1
          · (intro wq; go_simp; try with_reducible rfl)
          clear hU
          have hU := hV
          clear hV
          simp only [Act.put, List.getElem_toArray, List.getElem_cons_zero, List.getElem_cons_succ, List.setIfInBounds_toArray, List.set_cons_zero, List.set_cons_succ]
          refine AnyU.take (i := 1) (v := ?_) rfl (by kernel_rfl) (by kernel_rfl) (by kernel_rfl) (fun _ _ _ h => h) (by kernel_rfl) (by assumption) (by rfl) ?_ (fun hV => ?_)
          rotate_left 1
          · (intro wq; go_simp; try with_reducible rfl)
          clear hU
          have hU := hV
          clear hV
          simp only [Act.put, List.getElem_toArray, List.getElem_cons_zero, List.getElem_cons_succ, List.setIfInBounds_toArray, List.set_cons_zero, List.set_cons_succ]
          refine AnyU.take (i := 2) (v := ?_) rfl (by kernel_rfl) (by kernel_rfl) (by kernel_rfl) (fun _ _ _ h => h) (by kernel_rfl) (by assumption) (by rfl) ?_ (fun hV => ?_)
          rotate_left 1
          · (intro wq; go_simp; try with_reducible rfl)
          clear hU
          have hU := hV
          clear hV
          simp only [Act.put, List.getElem_toArray, List.getElem_cons_zero, List.getElem_cons_succ, List.setIfInBounds_toArray, List.set_cons_zero, List.set_cons_succ]
          refine AnyU.take (i := 3) (v := ?_) rfl (by kernel_rfl) (by kernel_rfl) (by kernel_rfl) (fun _ _ _ h => h) (by kernel_rfl) (by assumption) (by rfl) ?_ (fun hV => ?_)
          rotate_left 1
          · (intro wq; go_simp; try with_reducible rfl)
          clear hU
          have hU := hV
          clear hV
          simp only [Act.put, List.getElem_toArray, List.getElem_cons_zero, List.getElem_cons_succ, List.setIfInBounds_toArray, List.set_cons_zero, List.set_cons_succ]
          refine AnyU.take (i := 4) (v := ?_) rfl (by kernel_rfl) (by kernel_rfl) (by kernel_rfl) (fun _ _ _ h => h) (by kernel_rfl) (by assumption) (by rfl) ?_ (fun hV => ?_)
          rotate_left 1
          · (intro wq; go_simp; try with_reducible rfl)
          clear hU
          have hU := hV
          clear hV
          simp only [Act.put, List.getElem_toArray, List.getElem_cons_zero, List.getElem_cons_succ, List.setIfInBounds_toArray, List.set_cons_zero, List.set_cons_succ]
          refine AnyU.take (i := 7) (v := ?_) rfl (by kernel_rfl) (by kernel_rfl) (by kernel_rfl) (fun _ _ _ h => h) (by kernel_rfl) (by assumption) (by rfl) ?_ (fun hV => ?_)
          rotate_left 1
          · (intro wq; go_simp; try with_reducible rfl)
          clear hU
          have hU := hV
          clear hV
          simp only [Act.put, List.getElem_toArray, List.getElem_cons_zero, List.getElem_cons_succ, List.setIfInBounds_toArray, List.set_cons_zero, List.set_cons_succ]
          refine AnyU.take (i := 8) (v := ?_) rfl (by kernel_rfl) (by kernel_rfl) (by kernel_rfl) (fun _ _ _ h => h) (by kernel_rfl) (by assumption) (by rfl) ?_ (fun hV => ?_)
          rotate_left 1
          · (intro wq; go_simp; try with_reducible rfl)
          clear hU
          have hU := hV
          clear hV
          simp only [Act.put, List.getElem_toArray, List.getElem_cons_zero, List.getElem_cons_succ, List.setIfInBounds_toArray, List.set_cons_zero, List.set_cons_succ]
          refine AnyU.take (i := 9) (v := ?_) rfl (by kernel_rfl) (by kernel_rfl) (by kernel_rfl) (fun _ _ _ h => h) (by kernel_rfl) (by assumption) (by rfl) ?_ (fun hV => ?_)
          rotate_left 1
          · (intro wq; go_simp; try with_reducible rfl)
          clear hU
          have hU := hV
          clear hV
          simp only [Act.put, List.getElem_toArray, List.getElem_cons_zero, List.getElem_cons_succ, List.setIfInBounds_toArray, List.set_cons_zero, List.set_cons_succ]
          refine AnyU.take (i := 10) (v := ?_) rfl (by kernel_rfl) (by kernel_rfl) (by kernel_rfl) (fun _ _ _ h => h) (by kernel_rfl) (by assumption) (by rfl) ?_ (fun hV => ?_)
          rotate_left 1
          · (intro wq; go_simp; try with_reducible rfl)
          clear hU
          have hU := hV
          clear hV
          simp only [Act.put, List.getElem_toArray, List.getElem_cons_zero, List.getElem_cons_succ, List.setIfInBounds_toArray, List.set_cons_zero, List.set_cons_succ]
          refine AnyU.loadc (i := 5) (d := 14) [6, 11, 12, 14] (Si := fun w' => w'.cell? ⟨w.heap.size + 1, 0, none⟩ = some (.int .i64 (x : Int))) (v := ?_) rfl (by kernel_rfl) (by kernel_rfl) (by kernel_rfl) (fun _ _ _ h => h) (by kernel_rfl) (by assumption) (by kernel_rfl) rfl (by simp) (by rfl) ?_ (fun hV => ?_)
          rotate_left 1
          · (intro wq hq; go_simp; try with_reducible rfl)
          clear hU
          have hU := hV
          clear hV
          simp only [Act.put, List.getElem_toArray, List.getElem_cons_zero, List.getElem_cons_succ, List.setIfInBounds_toArray, List.set_cons_zero, List.set_cons_succ]
          refine AnyU.take (i := 6) (v := ?_) rfl (by kernel_rfl) (by kernel_rfl) (by kernel_rfl) (fun _ _ _ h => h) (by kernel_rfl) (by assumption) (by rfl) ?_ (fun hV => ?_)
          rotate_left 1
          · (intro wq; go_simp; try with_reducible rfl)
          clear hU
          have hU := hV
          clear hV
          simp only [Act.put, List.getElem_toArray, List.getElem_cons_zero, List.getElem_cons_succ, List.setIfInBounds_toArray, List.set_cons_zero, List.set_cons_succ]
          refine AnyU.take (i := 11) (v := ?_) rfl (by kernel_rfl) (by kernel_rfl) (by kernel_rfl) (fun _ _ _ h => h) (by kernel_rfl) (by assumption) (by rfl) ?_ (fun hV => ?_)
          rotate_left 1
          · (intro wq; go_simp; try with_reducible rfl)
          clear hU
          have hU := hV
          clear hV
          simp only [Act.put, List.getElem_toArray, List.getElem_cons_zero, List.getElem_cons_succ, List.setIfInBounds_toArray, List.set_cons_zero, List.set_cons_succ]
          refine AnyU.take (i := 12) (v := ?_) rfl (by kernel_rfl) (by kernel_rfl) (by kernel_rfl) (fun _ _ _ h => h) (by kernel_rfl) (by assumption) (by rfl) ?_ (fun hV => ?_)
          rotate_left 1
          · (intro wq; go_simp; try with_reducible rfl)
          clear hU
          have hU := hV
          clear hV
          simp only [Act.put, List.getElem_toArray, List.getElem_cons_zero, List.getElem_cons_succ, List.setIfInBounds_toArray, List.set_cons_zero, List.set_cons_succ]
          refine AnyU.take (i := 13) (v := ?_) rfl (by kernel_rfl) (by kernel_rfl) (by kernel_rfl) (fun _ _ _ h => h) (by kernel_rfl) (by assumption) (by rfl) ?_ (fun hV => ?_)
          rotate_left 1
          · (intro wq; go_simp; try with_reducible rfl)
          clear hU
          have hU := hV
          clear hV
          simp only [Act.put, List.getElem_toArray, List.getElem_cons_zero, List.getElem_cons_succ, List.setIfInBounds_toArray, List.set_cons_zero, List.set_cons_succ]
          have HL2 := Lib.hid ((HL.out.set 0 (.int .i64 (nv : Int))).drew)
          have HZ2 := Lib.hid (HZ.out.far ⟨w.heap.size + 1, 0, none⟩ (.int .i64 (nv : Int)) (by simp)).drew
          have HB2 := Lib.hid (HB.out.setCell (p := ⟨w.heap.size + 1, 0, none⟩) (by simp) (.int .i64 (nv : Int))).drew
          have gd := HL.out.drew.free 0
          have cd := HL.out.drew.cell 0
          simp at cd
          refine AnyU.ready1 (i := 14) (by kernel_rfl) (AnyU.one rfl fun K hK => ?_)
          go_simp
          refine hK.out _ _ (Until.off (by kernel_rfl)) (fun hV => ?_)
          clear hK K hU
          have hU := hV
          clear hV
          try simp only [Act.put, List.getElem_toArray, List.getElem_cons_zero, List.getElem_cons_succ, List.setIfInBounds_toArray, List.set_cons_zero, List.set_cons_succ]
          refine AnyU.done (by kernel_rfl) ?_
          simp only [List.setIfInBounds_toArray, List.set_cons_zero, List.set_cons_succ] at HL2
          go_wp2_with fail
          exact ⟨⟨i + 1, 0, nv, y, z, rfl, by go_num, HR2.out, HL2.out, HZ2.out, HB2.out⟩, by simp [intOf]; omega⟩
      · as_aux_lemma =>
          simp at hle
          have HR2 := Lib.hid (HRL.out.dig1 hlt h46 hd hle)
          obtain ⟨hlo, hhi⟩ := digB_iff.1 hd
          clear hd
          obtain ⟨X, hX⟩ : ∃ X : Int, (s[i].toNat : Int) = X := ⟨_, rfl⟩
          obtain ⟨nv, hnv⟩ : ∃ nv : Nat, 10 * y + (s[i].toNat - 48) = nv := ⟨_, rfl⟩
          have hlo2 : 48 ≤ X := by omega
          have hhi2 : X ≤ 57 := by omega
          have hleI : (y : Int) ≤ 99999999 := by omega
          have h46c : (X == 46) = false := by simp; omega
          have hw1 : IntKind.i64.wrap X = X := by rw [IntKind.wrap_i64]; omega
          have hw2 : IntKind.i64.wrap (10 * (y : Int)) = 10 * (y : Int) := by rw [IntKind.wrap_i64]; omega
          have hw3 : IntKind.i64.wrap (10 * (y : Int) + X) = 10 * (y : Int) + X := by rw [IntKind.wrap_i64]; omega
          have hw4 : IntKind.i64.wrap (10 * (y : Int) + X - 48) = 10 * (y : Int) + X - 48 := by rw [IntKind.wrap_i64]; omega
          have hnvI : 10 * (y : Int) + X - 48 = (nv : Int) := by omega
          have hwn : IntKind.i64.wrap (nv : Int) = (nv : Int) := by rw [IntKind.wrap_i64]; omega
          rw [hnv] at HR2
          obtain ⟨c0, c1, c2⟩ := cells3 HL.out
          have g1 := HL.out.free 1
          clear hlo hhi
          go_upto_region 11 with fail
          refine wp_region_until [(14, fun w' => w'.cell? ⟨w.heap.size + 1, 1, none⟩ = some (.int .i64 (y : Int)))] (by kernel_rfl) (Until.cons (fun _ => HL.out.drew.cell 1) Until.nil) (fun hU => ?_)
          refine AnyU.take (i := 0) (v := ?_) rfl (by kernel_rfl) (by kernel_rfl) (by kernel_rfl) (fun _ _ _ h => h) (by kernel_rfl) (by assumption) (by rfl) ?_ (fun hV => ?_)
          rotate_left 1
          · (intro wq; go_simp; try with_reducible rfl)
          clear hU
          have hU := hV
          clear hV
          simp only [Act.put, List.getElem_toArray, List.getElem_cons_zero, List.getElem_cons_succ, List.setIfInBounds_toArray, List.set_cons_zero, List.set_cons_succ]
          refine AnyU.take (i := 1) (v := ?_) rfl (by kernel_rfl) (by kernel_rfl) (by kernel_rfl) (fun _ _ _ h => h) (by kernel_rfl) (by assumption) (by rfl) ?_ (fun hV => ?_)
          rotate_left 1
          · (intro wq; go_simp; try with_reducible rfl)
          clear hU
          have hU := hV
          clear hV
          simp only [Act.put, List.getElem_toArray, List.getElem_cons_zero, List.getElem_cons_succ, List.setIfInBounds_toArray, List.set_cons_zero, List.set_cons_succ]
          refine AnyU.take (i := 2) (v := ?_) rfl (by kernel_rfl) (by kernel_rfl) (by kernel_rfl) (fun _ _ _ h => h) (by kernel_rfl) (by assumption) (by rfl) ?_ (fun hV => ?_)
          rotate_left 1
          · (intro wq; go_simp; try with_reducible rfl)
          clear hU
          have hU := hV
          clear hV
          simp only [Act.put, List.getElem_toArray, List.getElem_cons_zero, List.getElem_cons_succ, List.setIfInBounds_toArray, List.set_cons_zero, List.set_cons_succ]
          refine AnyU.take (i := 3) (v := ?_) rfl (by kernel_rfl) (by kernel_rfl) (by kernel_rfl) (fun _ _ _ h => h) (by kernel_rfl) (by assumption) (by rfl) ?_ (fun hV => ?_)
          rotate_left 1
          · (intro wq; go_simp; try with_reducible rfl)
          clear hU
          have hU := hV
          clear hV
          simp only [Act.put, List.getElem_toArray, List.getElem_cons_zero, List.getElem_cons_succ, List.setIfInBounds_toArray, List.set_cons_zero, List.set_cons_succ]
          refine AnyU.take (i := 4) (v := ?_) rfl (by kernel_rfl) (by kernel_rfl) (by kernel_rfl) (fun _ _ _ h => h) (by kernel_rfl) (by assumption) (by rfl) ?_ (fun hV => ?_)
          rotate_left 1
          · (intro wq; go_simp; try with_reducible rfl)
          clear hU
          have hU := hV
          clear hV
          simp only [Act.put, List.getElem_toArray, List.getElem_cons_zero, List.getElem_cons_succ, List.setIfInBounds_toArray, List.set_cons_zero, List.set_cons_succ]
          refine AnyU.take (i := 7) (v := ?_) rfl (by kernel_rfl) (by kernel_rfl) (by kernel_rfl) (fun _ _ _ h => h) (by kernel_rfl) (by assumption) (by rfl) ?_ (fun hV => ?_)
          rotate_left 1
          · (intro wq; go_simp; try with_reducible rfl)
          clear hU
          have hU := hV
          clear hV
          simp only [Act.put, List.getElem_toArray, List.getElem_cons_zero, List.getElem_cons_succ, List.setIfInBounds_toArray, List.set_cons_zero, List.set_cons_succ]
          refine AnyU.take (i := 8) (v := ?_) rfl (by kernel_rfl) (by kernel_rfl) (by kernel_rfl) (fun _ _ _ h => h) (by kernel_rfl) (by assumption) (by rfl) ?_ (fun hV => ?_)
          rotate_left 1
          · (intro wq; go_simp; try with_reducible rfl)
          clear hU
          have hU := hV
          clear hV
          simp only [Act.put, List.getElem_toArray, List.getElem_cons_zero, List.getElem_cons_succ, List.setIfInBounds_toArray, List.set_cons_zero, List.set_cons_succ]
          refine AnyU.take (i := 9) (v := ?_) rfl (by kernel_rfl) (by kernel_rfl) (by kernel_rfl) (fun _ _ _ h => h) (by kernel_rfl) (by assumption) (by rfl) ?_ (fun hV => ?_)
          rotate_left 1
          · (intro wq; go_simp; try with_reducible rfl)
          clear hU
          have hU := hV
          clear hV
          simp only [Act.put, List.getElem_toArray, List.getElem_cons_zero, List.getElem_cons_succ, List.setIfInBounds_toArray, List.set_cons_zero, List.set_cons_succ]
          refine AnyU.take (i := 10) (v := ?_) rfl (by kernel_rfl) (by kernel_rfl) (by kernel_rfl) (fun _ _ _ h => h) (by kernel_rfl) (by assumption) (by rfl) ?_ (fun hV => ?_)
          rotate_left 1
          · (intro wq; go_simp; try with_reducible rfl)
          clear hU
          have hU := hV
          clear hV
          simp only [Act.put, List.getElem_toArray, List.getElem_cons_zero, List.getElem_cons_succ, List.setIfInBounds_toArray, List.set_cons_zero, List.set_cons_succ]
          refine AnyU.loadc (i := 5) (d := 14) [6, 11, 12, 14] (Si := fun w' => w'.cell? ⟨w.heap.size + 1, 1, none⟩ = some (.int .i64 (y : Int))) (v := ?_) rfl (by kernel_rfl) (by kernel_rfl) (by kernel_rfl) (fun _ _ _ h => h) (by kernel_rfl) (by assumption) (by kernel_rfl) rfl (by simp) (by rfl) ?_ (fun hV => ?_)
          rotate_left 1
          · (intro wq hq; go_simp; try with_reducible rfl)
          clear hU
          have hU := hV
          clear hV
          simp only [Act.put, List.getElem_toArray, List.getElem_cons_zero, List.getElem_cons_succ, List.setIfInBounds_toArray, List.set_cons_zero, List.set_cons_succ]
          refine AnyU.take (i := 6) (v := ?_) rfl (by kernel_rfl) (by kernel_rfl) (by kernel_rfl) (fun _ _ _ h => h) (by kernel_rfl) (by assumption) (by rfl) ?_ (fun hV => ?_)
          rotate_left 1
          · (intro wq; go_simp; try with_reducible rfl)
          clear hU
          have hU := hV
          clear hV
          simp only [Act.put, List.getElem_toArray, List.getElem_cons_zero, List.getElem_cons_succ, List.setIfInBounds_toArray, List.set_cons_zero, List.set_cons_succ]
          refine AnyU.take (i := 11) (v := ?_) rfl (by kernel_rfl) (by kernel_rfl) (by kernel_rfl) (fun _ _ _ h => h) (by kernel_rfl) (by assumption) (by rfl) ?_ (fun hV => ?_)
          rotate_left 1
          · (intro wq; go_simp; try with_reducible rfl)
          clear hU
          have hU := hV
          clear hV
          simp only [Act.put, List.getElem_toArray, List.getElem_cons_zero, List.getElem_cons_succ, List.setIfInBounds_toArray, List.set_cons_zero, List.set_cons_succ]
          refine AnyU.take (i := 12) (v := ?_) rfl (by kernel_rfl) (by kernel_rfl) (by kernel_rfl) (fun _ _ _ h => h) (by kernel_rfl) (by assumption) (by rfl) ?_ (fun hV => ?_)
          rotate_left 1
          · (intro wq; go_simp; try with_reducible rfl)
          clear hU
          have hU := hV
          clear hV
          simp only [Act.put, List.getElem_toArray, List.getElem_cons_zero, List.getElem_cons_succ, List.setIfInBounds_toArray, List.set_cons_zero, List.set_cons_succ]
          refine AnyU.take (i := 13) (v := ?_) rfl (by kernel_rfl) (by kernel_rfl) (by kernel_rfl) (fun _ _ _ h => h) (by kernel_rfl) (by assumption) (by rfl) ?_ (fun hV => ?_)
          rotate_left 1
          · (intro wq; go_simp; try with_reducible rfl)
          clear hU
          have hU := hV
          clear hV
          simp only [Act.put, List.getElem_toArray, List.getElem_cons_zero, List.getElem_cons_succ, List.setIfInBounds_toArray, List.set_cons_zero, List.set_cons_succ]
          have HL2 := Lib.hid ((HL.out.set 1 (.int .i64 (nv : Int))).drew)
          have HZ2 := Lib.hid (HZ.out.far ⟨w.heap.size + 1, 1, none⟩ (.int .i64 (nv : Int)) (by simp)).drew
          have HB2 := Lib.hid (HB.out.setCell (p := ⟨w.heap.size + 1, 1, none⟩) (by simp) (.int .i64 (nv : Int))).drew
          have gd := HL.out.drew.free 1
          have cd := HL.out.drew.cell 1
          simp at cd
          refine AnyU.ready1 (i := 14) (by kernel_rfl) (AnyU.one rfl fun K hK => ?_)
          go_simp
          refine hK.out _ _ (Until.off (by kernel_rfl)) (fun hV => ?_)
          clear hK K hU
          have hU := hV
          clear hV
          try simp only [Act.put, List.getElem_toArray, List.getElem_cons_zero, List.getElem_cons_succ, List.setIfInBounds_toArray, List.set_cons_zero, List.set_cons_succ]
          refine AnyU.done (by kernel_rfl) ?_
          simp only [List.setIfInBounds_toArray, List.set_cons_zero, List.set_cons_succ] at HL2
          go_wp2_with fail
          exact ⟨⟨i + 1, 1, x, nv, z, rfl, by go_num, HR2.out, HL2.out, HZ2.out, HB2.out⟩, by simp [intOf]; omega⟩
      · as_aux_lemma =>
          simp at hle
          have HR2 := Lib.hid (HRL.out.dig2 hlt h46 hd hle)
          obtain ⟨hlo, hhi⟩ := digB_iff.1 hd
          clear hd
          obtain ⟨X, hX⟩ : ∃ X : Int, (s[i].toNat : Int) = X := ⟨_, rfl⟩
          obtain ⟨nv, hnv⟩ : ∃ nv : Nat, 10 * z + (s[i].toNat - 48) = nv := ⟨_, rfl⟩
          have hlo2 : 48 ≤ X := by omega
          have hhi2 : X ≤ 57 := by omega
          have hleI : (z : Int) ≤ 99999999 := by omega
          have h46c : (X == 46) = false := by simp; omega
          have hw1 : IntKind.i64.wrap X = X := by rw [IntKind.wrap_i64]; omega
          have hw2 : IntKind.i64.wrap (10 * (z : Int)) = 10 * (z : Int) := by rw [IntKind.wrap_i64]; omega
          have hw3 : IntKind.i64.wrap (10 * (z : Int) + X) = 10 * (z : Int) + X := by rw [IntKind.wrap_i64]; omega
          have hw4 : IntKind.i64.wrap (10 * (z : Int) + X - 48) = 10 * (z : Int) + X - 48 := by rw [IntKind.wrap_i64]; omega
          have hnvI : 10 * (z : Int) + X - 48 = (nv : Int) := by omega
          have hwn : IntKind.i64.wrap (nv : Int) = (nv : Int) := by rw [IntKind.wrap_i64]; omega
          rw [hnv] at HR2
          obtain ⟨c0, c1, c2⟩ := cells3 HL.out
          have g2 := HL.out.free 2
          clear hlo hhi
          go_upto_region 11 with fail
          refine wp_region_until [(14, fun w' => w'.cell? ⟨w.heap.size + 1, 2, none⟩ = some (.int .i64 (z : Int)))] (by kernel_rfl) (Until.cons (fun _ => HL.out.drew.cell 2) Until.nil) (fun hU => ?_)
          refine AnyU.take (i := 0) (v := ?_) rfl (by kernel_rfl) (by kernel_rfl) (by kernel_rfl) (fun _ _ _ h => h) (by kernel_rfl) (by assumption) (by rfl) ?_ (fun hV => ?_)
          rotate_left 1
          · (intro wq; go_simp; try with_reducible rfl)
          clear hU
          have hU := hV
          clear hV
          simp only [Act.put, List.getElem_toArray, List.getElem_cons_zero, List.getElem_cons_succ, List.setIfInBounds_toArray, List.set_cons_zero, List.set_cons_succ]
          refine AnyU.take (i := 1) (v := ?_) rfl (by kernel_rfl) (by kernel_rfl) (by kernel_rfl) (fun _ _ _ h => h) (by kernel_rfl) (by assumption) (by rfl) ?_ (fun hV => ?_)
          rotate_left 1
          · (intro wq; go_simp; try with_reducible rfl)
          clear hU
          have hU := hV
          clear hV
          simp only [Act.put, List.getElem_toArray, List.getElem_cons_zero, List.getElem_cons_succ, List.setIfInBounds_toArray, List.set_cons_zero, List.set_cons_succ]
          refine AnyU.take (i := 2) (v := ?_) rfl (by kernel_rfl) (by kernel_rfl) (by kernel_rfl) (fun _ _ _ h => h) (by kernel_rfl) (by assumption) (by rfl) ?_ (fun hV => ?_)
          rotate_left 1
          · (intro wq; go_simp; try with_reducible rfl)
          clear hU
          have hU := hV
          clear hV
          simp only [Act.put, List.getElem_toArray, List.getElem_cons_zero, List.getElem_cons_succ, List.setIfInBounds_toArray, List.set_cons_zero, List.set_cons_succ]
          refine AnyU.take (i := 3) (v := ?_) rfl (by kernel_rfl) (by kernel_rfl) (by kernel_rfl) (fun _ _ _ h => h) (by kernel_rfl) (by assumption) (by rfl) ?_ (fun hV => ?_)
          rotate_left 1
          · (intro wq; go_simp; try with_reducible rfl)
          clear hU
          have hU := hV
          clear hV
          simp only [Act.put, List.getElem_toArray, List.getElem_cons_zero, List.getElem_cons_succ, List.setIfInBounds_toArray, List.set_cons_zero, List.set_cons_succ]
          refine AnyU.take (i := 4) (v := ?_) rfl (by kernel_rfl) (by kernel_rfl) (by kernel_rfl) (fun _ _ _ h => h) (by kernel_rfl) (by assumption) (by rfl) ?_ (fun hV => ?_)
          rotate_left 1
          · (intro wq; go_simp; try with_reducible rfl)
          clear hU
          have hU := hV
          clear hV
          simp only [Act.put, List.getElem_toArray, List.getElem_cons_zero, List.getElem_cons_succ, List.setIfInBounds_toArray, List.set_cons_zero, List.set_cons_succ]
          refine AnyU.take (i := 7) (v := ?_) rfl (by kernel_rfl) (by kernel_rfl) (by kernel_rfl) (fun _ _ _ h => h) (by kernel_rfl) (by assumption) (by rfl) ?_ (fun hV => ?_)
          rotate_left 1
          · (intro wq; go_simp; try with_reducible rfl)
          clear hU
          have hU := hV
          clear hV
          simp only [Act.put, List.getElem_toArray, List.getElem_cons_zero, List.getElem_cons_succ, List.setIfInBounds_toArray, List.set_cons_zero, List.set_cons_succ]
          refine AnyU.take (i := 8) (v := ?_) rfl (by kernel_rfl) (by kernel_rfl) (by kernel_rfl) (fun _ _ _ h => h) (by kernel_rfl) (by assumption) (by rfl) ?_ (fun hV => ?_)
          rotate_left 1
          · (intro wq; go_simp; try with_reducible rfl)
          clear hU
          have hU := hV
          clear hV
          simp only [Act.put, List.getElem_toArray, List.getElem_cons_zero, List.getElem_cons_succ, List.setIfInBounds_toArray, List.set_cons_zero, List.set_cons_succ]
          refine AnyU.take (i := 9) (v := ?_) rfl (by kernel_rfl) (by kernel_rfl) (by kernel_rfl) (fun _ _ _ h => h) (by kernel_rfl) (by assumption) (by rfl) ?_ (fun hV => ?_)
          rotate_left 1
          · (intro wq; go_simp; try with_reducible rfl)
          clear hU
          have hU := hV
          clear hV
          simp only [Act.put, List.getElem_toArray, List.getElem_cons_zero, List.getElem_cons_succ, List.setIfInBounds_toArray, List.set_cons_zero, List.set_cons_succ]
          refine AnyU.take (i := 10) (v := ?_) rfl (by kernel_rfl) (by kernel_rfl) (by kernel_rfl) (fun _ _ _ h => h) (by kernel_rfl) (by assumption) (by rfl) ?_ (fun hV => ?_)
          rotate_left 1
          · (intro wq; go_simp; try with_reducible rfl)
          clear hU
          have hU := hV
          clear hV
          simp only [Act.put, List.getElem_toArray, List.getElem_cons_zero, List.getElem_cons_succ, List.setIfInBounds_toArray, List.set_cons_zero, List.set_cons_succ]
          refine AnyU.loadc (i := 5) (d := 14) [6, 11, 12, 14] (Si := fun w' => w'.cell? ⟨w.heap.size + 1, 2, none⟩ = some (.int .i64 (z : Int))) (v := ?_) rfl (by kernel_rfl) (by kernel_rfl) (by kernel_rfl) (fun _ _ _ h => h) (by kernel_rfl) (by assumption) (by kernel_rfl) rfl (by simp) (by rfl) ?_ (fun hV => ?_)
          rotate_left 1
          · (intro wq hq; go_simp; try with_reducible rfl)
          clear hU
          have hU := hV
          clear hV
          simp only [Act.put, List.getElem_toArray, List.getElem_cons_zero, List.getElem_cons_succ, List.setIfInBounds_toArray, List.set_cons_zero, List.set_cons_succ]
          refine AnyU.take (i := 6) (v := ?_) rfl (by kernel_rfl) (by kernel_rfl) (by kernel_rfl) (fun _ _ _ h => h) (by kernel_rfl) (by assumption) (by rfl) ?_ (fun hV => ?_)
          rotate_left 1
          · (intro wq; go_simp; try with_reducible rfl)
          clear hU
          have hU := hV
          clear hV
          simp only [Act.put, List.getElem_toArray, List.getElem_cons_zero, List.getElem_cons_succ, List.setIfInBounds_toArray, List.set_cons_zero, List.set_cons_succ]
          refine AnyU.take (i := 11) (v := ?_) rfl (by kernel_rfl) (by kernel_rfl) (by kernel_rfl) (fun _ _ _ h => h) (by kernel_rfl) (by assumption) (by rfl) ?_ (fun hV => ?_)
          rotate_left 1
          · (intro wq; go_simp; try with_reducible rfl)
          clear hU
          have hU := hV
          clear hV
          simp only [Act.put, List.getElem_toArray, List.getElem_cons_zero, List.getElem_cons_succ, List.setIfInBounds_toArray, List.set_cons_zero, List.set_cons_succ]
          refine AnyU.take (i := 12) (v := ?_) rfl (by kernel_rfl) (by kernel_rfl) (by kernel_rfl) (fun _ _ _ h => h) (by kernel_rfl) (by assumption) (by rfl) ?_ (fun hV => ?_)
          rotate_left 1
          · (intro wq; go_simp; try with_reducible rfl)
          clear hU
          have hU := hV
          clear hV
          simp only [Act.put, List.getElem_toArray, List.getElem_cons_zero, List.getElem_cons_succ, List.setIfInBounds_toArray, List.set_cons_zero, List.set_cons_succ]
          refine AnyU.take (i := 13) (v := ?_) rfl (by kernel_rfl) (by kernel_rfl) (by kernel_rfl) (fun _ _ _ h => h) (by kernel_rfl) (by assumption) (by rfl) ?_ (fun hV => ?_)
          rotate_left 1
          · (intro wq; go_simp; try with_reducible rfl)
          clear hU
          have hU := hV
          clear hV
          simp only [Act.put, List.getElem_toArray, List.getElem_cons_zero, List.getElem_cons_succ, List.setIfInBounds_toArray, List.set_cons_zero, List.set_cons_succ]
          have HL2 := Lib.hid ((HL.out.set 2 (.int .i64 (nv : Int))).drew)
          have HZ2 := Lib.hid (HZ.out.far ⟨w.heap.size + 1, 2, none⟩ (.int .i64 (nv : Int)) (by simp)).drew
          have HB2 := Lib.hid (HB.out.setCell (p := ⟨w.heap.size + 1, 2, none⟩) (by simp) (.int .i64 (nv : Int))).drew
          have gd := HL.out.drew.free 2
          have cd := HL.out.drew.cell 2
          simp at cd
          refine AnyU.ready1 (i := 14) (by kernel_rfl) (AnyU.one rfl fun K hK => ?_)
          go_simp
          refine hK.out _ _ (Until.off (by kernel_rfl)) (fun hV => ?_)
          clear hK K hU
          have hU := hV
          clear hV
          try simp only [Act.put, List.getElem_toArray, List.getElem_cons_zero, List.getElem_cons_succ, List.setIfInBounds_toArray, List.set_cons_zero, List.set_cons_succ]
          refine AnyU.done (by kernel_rfl) ?_
          simp only [List.setIfInBounds_toArray, List.set_cons_zero, List.set_cons_succ] at HL2
          go_wp2_with fail
          exact ⟨⟨i + 1, 2, x, y, nv, rfl, by go_num, HR2.out, HL2.out, HZ2.out, HB2.out⟩, by simp [intOf]; omega⟩
    · obtain rfl : i = s.size := by omega
      have hltI : ¬ (s.size : Int) < (s.size : Int) := by omega
      have hsc := ref_some (by omega) HRL.out.done
      have HS := Lib.hid hsc
      clear hsc
      go_upto_region 15 with fail
      refine wp_region_until [(11, fun w' => w'.cell? ⟨w.heap.size + 1, 0, none⟩ = some (.int .i64 (x : Int))), (11, fun w' => w'.cell? ⟨w.heap.size + 1, 1, none⟩ = some (.int .i64 (y : Int))), (11, fun w' => w'.cell? ⟨w.heap.size + 1, 2, none⟩ = some (.int .i64 (z : Int)))] (by kernel_rfl) (Until.cons (fun _ => HL.out.drew.cell 0) (Until.cons (fun _ => HL.out.drew.cell 1) (Until.cons (fun _ => HL.out.drew.cell 2) Until.nil))) (fun hU => ?_)
      refine AnyU.take (i := 0) (v := ?_) rfl (by kernel_rfl) (by kernel_rfl) (by kernel_rfl) (fun _ _ _ h => h) (by kernel_rfl) (by assumption) (by rfl) ?_ (fun hV => ?_)
      rotate_left 1
      · (intro wq; go_simp; try with_reducible rfl)
      clear hU
      have hU := hV
      clear hV
      simp only [Act.put, List.getElem_toArray, List.getElem_cons_zero, List.getElem_cons_succ, List.setIfInBounds_toArray, List.set_cons_zero, List.set_cons_succ]
      refine AnyU.take (i := 1) (v := ?_) rfl (by kernel_rfl) (by kernel_rfl) (by kernel_rfl) (fun _ _ _ h => h) (by kernel_rfl) (by assumption) (by rfl) ?_ (fun hV => ?_)
      rotate_left 1
      · (intro wq; go_simp; try with_reducible rfl)
      clear hU
      have hU := hV
      clear hV
      simp only [Act.put, List.getElem_toArray, List.getElem_cons_zero, List.getElem_cons_succ, List.setIfInBounds_toArray, List.set_cons_zero, List.set_cons_succ]
      refine AnyU.take (i := 3) (v := ?_) rfl (by kernel_rfl) (by kernel_rfl) (by kernel_rfl) (fun _ _ _ h => h) (by kernel_rfl) (by assumption) (by rfl) ?_ (fun hV => ?_)
      rotate_left 1
      · (intro wq; go_simp; try with_reducible rfl)
      clear hU
      have hU := hV
      clear hV
      simp only [Act.put, List.getElem_toArray, List.getElem_cons_zero, List.getElem_cons_succ, List.setIfInBounds_toArray, List.set_cons_zero, List.set_cons_succ]
      refine AnyU.take (i := 4) (v := ?_) rfl (by kernel_rfl) (by kernel_rfl) (by kernel_rfl) (fun _ _ _ h => h) (by kernel_rfl) (by assumption) (by rfl) ?_ (fun hV => ?_)
      rotate_left 1
      · (intro wq; go_simp; try with_reducible rfl)
      clear hU
      have hU := hV
      clear hV
      simp only [Act.put, List.getElem_toArray, List.getElem_cons_zero, List.getElem_cons_succ, List.setIfInBounds_toArray, List.set_cons_zero, List.set_cons_succ]
      refine AnyU.take (i := 6) (v := ?_) rfl (by kernel_rfl) (by kernel_rfl) (by kernel_rfl) (fun _ _ _ h => h) (by kernel_rfl) (by assumption) (by rfl) ?_ (fun hV => ?_)
      rotate_left 1
      · (intro wq; go_simp; try with_reducible rfl)
      clear hU
      have hU := hV
      clear hV
      simp only [Act.put, List.getElem_toArray, List.getElem_cons_zero, List.getElem_cons_succ, List.setIfInBounds_toArray, List.set_cons_zero, List.set_cons_succ]
      refine AnyU.take (i := 7) (v := ?_) rfl (by kernel_rfl) (by kernel_rfl) (by kernel_rfl) (fun _ _ _ h => h) (by kernel_rfl) (by assumption) (by rfl) ?_ (fun hV => ?_)
      rotate_left 1
      · (intro wq; go_simp; try with_reducible rfl)
      clear hU
      have hU := hV
      clear hV
      simp only [Act.put, List.getElem_toArray, List.getElem_cons_zero, List.getElem_cons_succ, List.setIfInBounds_toArray, List.set_cons_zero, List.set_cons_succ]
      refine AnyU.loadc (i := 2) (d := 11) [9, 11] (Si := fun w' => w'.cell? ⟨w.heap.size + 1, 0, none⟩ = some (.int .i64 (x : Int))) (v := ?_) rfl (by kernel_rfl) (by kernel_rfl) (by kernel_rfl) (fun _ _ _ h => h) (by kernel_rfl) (by assumption) (by kernel_rfl) rfl (by simp) (by rfl) ?_ (fun hV => ?_)
      rotate_left 1
      · (intro wq hq; go_simp; try with_reducible rfl)
      clear hU
      have hU := hV
      clear hV
      simp only [Act.put, List.getElem_toArray, List.getElem_cons_zero, List.getElem_cons_succ, List.setIfInBounds_toArray, List.set_cons_zero, List.set_cons_succ]
      refine AnyU.loadc (i := 5) (d := 11) [9, 11] (Si := fun w' => w'.cell? ⟨w.heap.size + 1, 1, none⟩ = some (.int .i64 (y : Int))) (v := ?_) rfl (by kernel_rfl) (by kernel_rfl) (by kernel_rfl) (fun _ _ _ h => h) (by kernel_rfl) (by assumption) (by kernel_rfl) rfl (by simp) (by rfl) ?_ (fun hV => ?_)
      rotate_left 1
      · (intro wq hq; go_simp; try with_reducible rfl)
      clear hU
      have hU := hV
      clear hV
      simp only [Act.put, List.getElem_toArray, List.getElem_cons_zero, List.getElem_cons_succ, List.setIfInBounds_toArray, List.set_cons_zero, List.set_cons_succ]
      refine AnyU.loadc (i := 8) (d := 11) [9, 11] (Si := fun w' => w'.cell? ⟨w.heap.size + 1, 2, none⟩ = some (.int .i64 (z : Int))) (v := ?_) rfl (by kernel_rfl) (by kernel_rfl) (by kernel_rfl) (fun _ _ _ h => h) (by kernel_rfl) (by assumption) (by kernel_rfl) rfl (by simp) (by rfl) ?_ (fun hV => ?_)
      rotate_left 1
      · (intro wq hq; go_simp; try with_reducible rfl)
      clear hU
      have hU := hV
      clear hV
      simp only [Act.put, List.getElem_toArray, List.getElem_cons_zero, List.getElem_cons_succ, List.setIfInBounds_toArray, List.set_cons_zero, List.set_cons_succ]
      refine AnyU.take (i := 9) (v := ?_) rfl (by kernel_rfl) (by kernel_rfl) (by kernel_rfl) (fun _ _ _ h => h) (by kernel_rfl) (by assumption) (by rfl) ?_ (fun hV => ?_)
      rotate_left 1
      · (intro wq; go_simp; try with_reducible rfl)
      clear hU
      have hU := hV
      clear hV
      simp only [Act.put, List.getElem_toArray, List.getElem_cons_zero, List.getElem_cons_succ, List.setIfInBounds_toArray, List.set_cons_zero, List.set_cons_succ]
      refine AnyU.ready1 (i := 10) (by kernel_rfl) (AnyU.one rfl fun K hK => ?_)
      go_simp
      have hn := Blk.new wr.drew #[.int .i64 0, .int .i64 0, .int .i64 0] 24
      have hz1 := HZ.out.drew.alloc (.cells #[.int .i64 0, .int .i64 0, .int .i64 0] 24)
      have hb1 := HB.out.drew.alloc HB.out.size (.cells #[.int .i64 0, .int .i64 0, .int .i64 0] 24)
      refine hK.out _ _ (Until.cons (fun _ => (HL.out.drew.alloc _).cell 0) (Until.cons (fun _ => (HL.out.drew.alloc _).cell 1) (Until.cons (fun _ => (HL.out.drew.alloc _).cell 2) Until.nil))) (fun hV => ?_)
      clear hK K hU
      have hU := hV
      clear hV
      try simp only [Act.put, List.getElem_toArray, List.getElem_cons_zero, List.getElem_cons_succ, List.setIfInBounds_toArray, List.set_cons_zero, List.set_cons_succ]
      refine AnyU.ready1 (i := 11) (by kernel_rfl) (AnyU.one rfl fun K hK => ?_)
      go_simp
      refine hK.out _ _ (Until.off (by kernel_rfl)) (fun hV => ?_)
      clear hK K hU hV hn hz1 hb1
      try simp only [Act.put, List.getElem_toArray, List.getElem_cons_zero, List.getElem_cons_succ, List.setIfInBounds_toArray, List.set_cons_zero, List.set_cons_succ]
      refine AnyU.done (by kernel_rfl) ?_
      have hn := (Blk.new wr #[.int .i64 (x : Int), .int .i64 (y : Int), .int .i64 (z : Int)] 24).drew
      have hz1 := (HZ.out.alloc (.cells #[.int .i64 (x : Int), .int .i64 (y : Int), .int .i64 (z : Int)] 24)).drew
      have hb1 := (HB.out.alloc HB.out.size (.cells #[.int .i64 (x : Int), .int .i64 (y : Int), .int .i64 (z : Int)] 24)).drew
      generalize (wr.alloc (.cells #[.int .i64 (x : Int), .int .i64 (y : Int), .int .i64 (z : Int)] 24)).drew = Y at hn hz1 hb1 ⊢
      have hwb := HB.out.size
      generalize wr.heap.size = bn at hn hwb ⊢
      obtain ⟨n0, n1, n2⟩ := cells3 hn
      have ln := hn.lt
      go_wp2_with fail
      refine (refMay_c x y z Y).mono ?_
      rintro e y1 ⟨rfl, hbm⟩
      have HZ := Lib.hid (hz1.under hbm hz1.lt)
      have HN := Lib.hid (hn.under hbm hn.lt)
      have HB := Lib.hid (acc0 hb1 hb1.size hbm)
      clear hn hz1 hb1 hbm n0 n1 n2 ln
      cases hm : mayB x y z
      · have hnone : parseF s.data.toList = none := by rw [HS.out, if_neg]; rintro ⟨h, -⟩; rw [hm] at h; cases h
        have e1 : V = (0, 0, 0) := by rw [← HV.out, parV, hnone]; rfl
        have e2 : O = false := by rw [← HO.out, hnone]; rfl
        subst e1 e2
        obtain ⟨q0, q1, q2⟩ := cells3 HZ.out
        have f0 := HZ.out.free 0
        have f1 := HZ.out.free 1
        have f2 := HZ.out.free 2
        have lz := HZ.out.lt
        clear hnone hm
        go_wp2_with fail
        have hp := put3_full (.int .i64 0) (.int .i64 0) (.int .i64 0) HZ.out
        have hbp := put3_bel (.int .i64 0) (.int .i64 0) (.int .i64 0) HB.out (Nat.le_refl _)
        generalize (((y1.setCell ⟨w.heap.size, 0, none⟩ (.int .i64 0)).setCell ⟨w.heap.size, 1, none⟩ (.int .i64 0)).setCell ⟨w.heap.size, 2, none⟩ (.int .i64 0)) = Wz at hp hbp ⊢
        obtain ⟨r0, r1, r2⟩ := cells3 hp
        refine bodyPost_ret (by simp [results, Tryz.results19, go_sem, r0, r1, r2]; try rfl) rfl ?_
        exact ⟨rfl, hbp⟩
      obtain ⟨n0, n1, n2⟩ := cells3 HN.out
      have ln := HN.out.lt
      have HM := Lib.hid hm
      clear hm
      have HP := Lib.hid (refPrint_c x y z y1 HM.out)
      have hs2 := HS.out
      rw [HM.out] at hs2
      obtain ⟨S, hS⟩ : ∃ S, verS x y z = S := ⟨_, rfl⟩
      rw [hS] at HP hs2
      have HS3 := Lib.hid hs2
      clear hs2 hS
      have f0 := HZ.out.free 0
      by_cases hv : S = s
      · subst hv
        have hso := HS3.out
        rw [if_pos ⟨rfl, rfl⟩] at hso
        have e1 : V = ((x : Int), (y : Int), (z : Int)) := by rw [← HV.out, parV, hso]; rfl
        have e2 : O = true := by rw [← HO.out, hso]; rfl
        subst e1 e2
        clear hso
        go_wp2_with (go_at_call 41; refine HP.out.mono ?_; rintro e y2 ⟨rfl, hbp⟩; have HB3 := Lib.hid (acc0 HB.out HB.out.size hbp); have HZ3 := Lib.hid (HZ.out.under hbp HZ.out.lt); have HN3 := Lib.hid (HN.out.under hbp HN.out.lt); obtain ⟨m0, m1, m2⟩ := cells3 HN3.out; have lm := HN3.out.lt; obtain ⟨q0, q1, q2⟩ := cells3 HZ3.out; have f0 := HZ3.out.free 0; have f1 := HZ3.out.free 1; have f2 := HZ3.out.free 2; have lz := HZ3.out.lt; clear hbp)
        have hp := put3_full (.int .i64 (x : Int)) (.int .i64 (y : Int)) (.int .i64 (z : Int)) HZ3.out
        have hbq := put3_bel (.int .i64 (x : Int)) (.int .i64 (y : Int)) (.int .i64 (z : Int)) HB3.out (Nat.le_refl _)
        generalize (((y2.setCell ⟨w.heap.size, 0, none⟩ (.int .i64 (x : Int))).setCell ⟨w.heap.size, 1, none⟩ (.int .i64 (y : Int))).setCell ⟨w.heap.size, 2, none⟩ (.int .i64 (z : Int))) = Wz at hp hbq ⊢
        obtain ⟨r0, r1, r2⟩ := cells3 hp
        refine bodyPost_ret (by simp [results, Tryz.results19, go_sem, r0, r1, r2]; try rfl) rfl ?_
        exact ⟨rfl, hbq⟩
      have hne : (S.toList == s.toList) = false := by simp; exact fun e => hv (by rwa [bytes_eqV] at e)
      have hso := HS3.out
      rw [if_neg (fun h => hv h.2)] at hso
      have hnone := hso
      have e1 : V = (0, 0, 0) := by rw [← HV.out, parV, hnone]; rfl
      have e2 : O = false := by rw [← HO.out, hnone]; rfl
      subst e1 e2
      go_wp2_with (go_at_call 41; refine HP.out.mono ?_; rintro e y2 ⟨rfl, hbp⟩; have HB3 := Lib.hid (acc0 HB.out HB.out.size hbp); have HZ3 := Lib.hid (HZ.out.under hbp HZ.out.lt); obtain ⟨q0, q1, q2⟩ := cells3 HZ3.out; have f0 := HZ3.out.free 0; have f1 := HZ3.out.free 1; have f2 := HZ3.out.free 2; have lz := HZ3.out.lt; clear hbp)
      have hp := put3_full (.int .i64 0) (.int .i64 0) (.int .i64 0) HZ3.out
      have hbp := put3_bel (.int .i64 0) (.int .i64 0) (.int .i64 0) HB3.out (Nat.le_refl _)
      generalize (((y2.setCell ⟨w.heap.size, 0, none⟩ (.int .i64 0)).setCell ⟨w.heap.size, 1, none⟩ (.int .i64 0)).setCell ⟨w.heap.size, 2, none⟩ (.int .i64 0)) = Wz at hp hbp ⊢
      obtain ⟨r0, r1, r2⟩ := cells3 hp
      refine bodyPost_ret (by simp [results, Tryz.results19, go_sem, r0, r1, r2]; try rfl) rfl ?_
      exact ⟨rfl, hbp⟩
end Go.Proofs.YtlpgkldialmofaaGreatDoor
