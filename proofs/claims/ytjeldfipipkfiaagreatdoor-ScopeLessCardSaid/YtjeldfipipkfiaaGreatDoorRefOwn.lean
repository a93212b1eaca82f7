/- The contract of merlonref04.own; no condition but those of Go's own values. -/
import Derived.Test.YtjeldfipipkfiaaGreatDoorRefKindB
namespace Go.Proofs.YtjeldfipipkfiaaGreatDoor
open Go.RowKit
set_option linter.unusedSimpArgs false
set_option linter.unusedVariables false
theorem less_total : ∀ x y : List UInt8, (Op.bytesLess y x || y == x) = !Op.bytesLess x y
  | [], [] => by simp [Op.bytesLess]
  | [], _ :: _ => by simp [Op.bytesLess]
  | _ :: _, [] => by simp [Op.bytesLess]
  | a :: x, b :: y => by
    have ih := less_total x y
    simp only [Op.bytesLess]
    rcases Nat.lt_trichotomy a.toNat b.toNat with h | h | h
    · have h1 : a < b := UInt8.lt_iff_toNat_lt.2 h
      have h2 : ¬ b < a := fun e => by have := UInt8.lt_iff_toNat_lt.1 e; omega
      have h3 : ¬ b = a := fun e => by subst e; omega
      simp [h1, h2, h3]
    · have e : a = b := UInt8.toNat_inj.1 h
      subst e
      have h2 : ¬ a < a := fun e => by have := UInt8.lt_iff_toNat_lt.1 e; omega
      simp [h2, ← ih]
    · have h1 : b < a := UInt8.lt_iff_toNat_lt.2 h
      have h2 : ¬ a < b := fun e => by have := UInt8.lt_iff_toNat_lt.1 e; omega
      have h3 : ¬ a = b := fun e => by subst e; omega
      simp [h1, h2, h3]
theorem lt_yes {a b : ByteArray} (h : ltB a b = true) : Op.bytesLess b.toList a.toList = false ∧ (b.toList == a.toList) = false := by
  have := less_total a.toList b.toList
  unfold ltB at h
  rw [h] at this
  simpa using this
theorem lt_no {a b : ByteArray} (h : ltB a b = false) (h2 : Op.bytesLess b.toList a.toList = false) : (b.toList == a.toList) = true := by
  have := less_total a.toList b.toList
  unfold ltB at h
  rw [h, h2] at this
  simpa using this
theorem rGreat_b (s : ByteArray) (w : World) (hs : s.size ≤ maxLen) : Calls Tryz.prog 114 #[.string s] w fun e w' => e = .returned (.bool (greatB s)) ∧ Below w.heap.size w w' :=
  (rGreat_c s w hs).mono fun _ _ ⟨he, hw⟩ => ⟨he, hw ▸ Below.refl _ _⟩
def pK (k : Int) (s : ByteArray) : Bool := (k != 5 || smallB s) && (k != 6 || greatB s)
def flatE (t : Ty) : Bool := t.pkg.toList.isEmpty && t.major == 0 && t.mod.toList.isEmpty && t.name.toList.isEmpty
def kindR (t : Ty) : Bool :=
  if t.kind = 1 ∨ t.kind = 2 ∨ t.kind = 3 then flatE t && ((t.subs.length : Int) == 0) && ((t.names.length : Int) == 0)
  else if t.kind = 4 then flatE t && ((t.subs.length : Int) == 1) && ((t.names.length : Int) == 0)
  else if t.kind = 5 then flatE t && ((t.subs.length : Int) == (t.names.length : Int))
  else if t.kind = 6 then flatE t && ((t.subs.length : Int) == (t.names.length : Int)) && decide ((0 : Int) < t.subs.length)
  else if t.kind = 7 then flatE t && decide ((0 : Int) < t.subs.length) && ((t.names.length : Int) == 0)
  else if t.kind = 8 then ((t.subs.length : Int) == 0) && ((t.names.length : Int) == 0) && t.pkg.toList.isEmpty && t.major == 0 && greatB t.name && (smallB t.mod || t.mod.toList.isEmpty)
  else if t.kind = 9 then ((t.subs.length : Int) == 0) && ((t.names.length : Int) == 0) && smallB t.pkg && smallB t.mod && greatB t.name && decide ((1 : Int) ≤ t.major) && decide (t.major ≤ 999999999)
  else false
def ownB (t : Ty) : Bool := decide ((t.subs.length : Int) ≤ 20) && namesB (pK t.kind) t.names && kindR t
set_option maxRecDepth 100000 in
set_option maxHeartbeats 4000000 in
theorem own_5 (t : Ty) (cs : Array Value) (B : Nat) (w : World) (ht : TyC w B t cs) (hB : B ≤ w.heap.size) (hn20 : (t.subs.length : Int) ≤ 20) (hk5 : (t.kind == 5) = true) (hk6 : (t.kind == 6) = false) :
    Calls Tryz.prog 115 #[.agg cs] w fun e w' => e = .returned (.bool (ownB t)) ∧ Below w.heap.size w w' := by
  obtain ⟨na, nc, sa, sc, f, rfl, hf, hn, -, hnc, hsc, -⟩ := ht.inv
  have HF := Lib.hid hf
  have HN := Lib.hid hn
  have hnm := hf.names
  unfold maxLen at hnm
  clear hf hn ht
  have hpk : ∀ s, pK t.kind s = smallB s := fun s => by simp only [beq_iff_eq] at hk5; rw [hk5]; simp [pK]
  have HPK := Lib.hid hpk
  clear hpk
  go_enter Tryz.func115, Tryz.ntmps115
  simp only [tyCells]
  go_wp2
  go_loopw [5] (fun i wr => ∃ k : Nat, k ≤ t.names.length ∧ i = .int .i64 k ∧ Below w.heap.size w wr ∧ BoxAt wr w.heap.size (tyCells t na nc sa sc) ∧ Good (pK t.kind) t.names k) (fun i _ => t.names.length - (intOf i).toNat)
  case atStart => exact ⟨0, Nat.zero_le _, rfl, (Below.refl _ _).alloc (Nat.le_refl _) _, BoxAt.new _ _ _, fun i _ hi => absurd hi (by omega)⟩
  case round =>
    obtain ⟨k, hk, rfl, hacc, hbx, hg⟩ := hrel
    have HG := Lib.hid hg
    have HX := Lib.hid hbx
    obtain ⟨hx1, hx2⟩ := hbx
    unfold tyCells at hx2
    have hsz := hacc.size
    clear hg
    by_cases hlt : k < t.names.length
    · rcases HN.out with hr | ⟨b, o, rfl, hb, hc⟩
      · rw [hr] at hlt; simp at hlt
      have HC := Lib.hid hc
      have hck : wr.cell? ⟨b, o + k, none⟩ = some (.string t.names[k]) := (hacc.cell (p := ⟨b, o + k, none⟩) (by simp; omega)).trans (hc k hlt)
      clear hc
      go_wp2_with fail
      refine (rSmall_c t.names[k] _ (HF.out.each _ (List.getElem_mem hlt))).mono ?_
      rintro e w1 ⟨rfl, hb1⟩
      have hck1 : w1.cell? ⟨b, o + k, none⟩ = some (.string t.names[k]) := (hb1.cell (p := ⟨b, o + k, none⟩) (by simp; omega)).trans hck
      have HX1 := Lib.hid (HX.out.under hb1)
      have hx3 := HX1.out.1
      have hx4 := HX1.out.2
      unfold tyCells at hx4
      have hacc1 : Below w.heap.size w w1 := acc0 hacc hsz hb1
      have hsz1 := hacc1.size
      go_wp2_with fail
      refine (rGreat_b t.names[k] _ (HF.out.each _ (List.getElem_mem hlt))).mono ?_
      rintro e w2 ⟨rfl, hb2⟩
      have hck2 : w2.cell? ⟨b, o + k, none⟩ = some (.string t.names[k]) := (hb2.cell (p := ⟨b, o + k, none⟩) (by simp; omega)).trans hck1
      have HX2 := Lib.hid (HX1.out.under hb2)
      have hx5 := HX2.out.1
      have hx6 := HX2.out.2
      unfold tyCells at hx6
      have hacc2 : Below w.heap.size w w2 := acc0 hacc1 hsz1 hb2
      clear hacc hacc1 hck hck1 hx1 hx2 hx3 hx4 hb1 hb2
      cases hsm : smallB t.names[k]
      · have HM := Lib.hid hsm
        go_wp2
        go_quiet (fail)
        go_wp2
        go_ret
        exact ⟨ret_b (by rw [ownB, good_bad (p := pK t.kind) hlt (.inl (by rw [HPK.out]; exact HM.out))]; simp), below_drewN hacc2 _⟩
      · have HM := Lib.hid hsm
        by_cases h0 : 0 < k
        · have hcp : w2.cell? ⟨b, o + (k - 1), none⟩ = some (.string (t.names[k - 1]'(by omega))) := (hacc2.cell (p := ⟨b, o + (k - 1), none⟩) (by simp; omega)).trans (HC.out (k - 1) (by omega))
          have hz1 : IntKind.i64.wrap ((k : Int) - 1) = (k : Int) - 1 := IntWalk.i64_in _ (by omega)
          have hz2 : (0 : Int) ≤ (k : Int) - 1 := by omega
          have hz3 : ((k : Int) - 1).toNat = k - 1 := by omega
          have hz4 : (k : Int) - 1 < (t.names.length : Int) := by omega
          have hz5 : decide ((0 : Int) < (k : Int)) = true := by simp; omega
          have hz6 : (0 : Int) < (k : Int) := by omega
          cases hlk : ltB (t.names[k - 1]'(by omega)) t.names[k]
          · cases hgt : Op.bytesLess t.names[k].toList (t.names[k - 1]'(by omega)).toList
            · have heq := lt_no hlk hgt
              have HL := Lib.hid hlk
              clear hlk
              go_wp2
              go_quiet (fail)
              go_wp2
              go_ret
              exact ⟨ret_b (by rw [ownB, good_bad (p := pK t.kind) hlt (.inr ⟨h0, HL.out⟩)]; simp), below_drewN hacc2 _⟩
            · have HL := Lib.hid hlk
              clear hlk
              go_wp2
              go_quiet (fail)
              go_wp2
              go_ret
              exact ⟨ret_b (by rw [ownB, good_bad (p := pK t.kind) hlt (.inr ⟨h0, HL.out⟩)]; simp), below_drewN hacc2 _⟩
          · obtain ⟨hq1, hq2⟩ := lt_yes hlk
            have HL := Lib.hid hlk
            clear hlk
            go_wp2
            go_quiet (fail)
            go_wp2
            refine ⟨⟨k + 1, by omega, by go_num, below_drewN hacc2 _, HX2.out, good_succ hlt HG.out (by rw [HPK.out]; exact HM.out) (fun _ => HL.out)⟩, by simp [intOf]; omega⟩
        · have hd : decide ((0 : Int) < (k : Int)) = false := by simp; omega
          go_wp2
          go_quiet (fail)
          go_wp2
          refine ⟨⟨k + 1, by omega, by go_num, below_drewN hacc2 _, HX2.out, good_succ hlt HG.out (by rw [HPK.out]; exact HM.out) (fun h => absurd h h0)⟩, by simp [intOf]; omega⟩
    · have e : k = t.names.length := by omega
      have hgood := Lib.hid (good_all (p := pK t.kind) (l := t.names) (by have := HG.out; rwa [e] at this))
      have HE := Lib.hid (show ownB t = kindR t by simp only [ownB, hgood.out, Bool.and_true, decide_eq_true hn20, Bool.true_and])
      clear HN HPK HG
      have k1 : (t.kind == 1) = false := by simp only [beq_iff_eq] at hk5; rw [hk5]; rfl
      have k2 : (t.kind == 2) = false := by simp only [beq_iff_eq] at hk5; rw [hk5]; rfl
      have k3 : (t.kind == 3) = false := by simp only [beq_iff_eq] at hk5; rw [hk5]; rfl
      have k4 : (t.kind == 4) = false := by simp only [beq_iff_eq] at hk5; rw [hk5]; rfl
      have k7 : (t.kind == 7) = false := by simp only [beq_iff_eq] at hk5; rw [hk5]; rfl
      have k8 : (t.kind == 8) = false := by simp only [beq_iff_eq] at hk5; rw [hk5]; rfl
      have k9 : (t.kind == 9) = false := by simp only [beq_iff_eq] at hk5; rw [hk5]; rfl
      go_wp2_with (first
        | (go_at_call 114; refine (rGreat_b _ _ HF.out.name).mono ?_; rintro e w2 ⟨rfl, hb⟩; have hacc := acc0 hacc hacc.size hb; have HX := Lib.hid (HX.out.under hb); have hx1 := HX.out.1; have hx2 := HX.out.2; unfold tyCells at hx2)
        | (go_at_call 56; refine (rSmall_c _ _ (by first | exact HF.out.mod | exact HF.out.pkg)).mono ?_; rintro e w2 ⟨rfl, hb⟩; have hacc := acc0 hacc hacc.size hb; have HX := Lib.hid (HX.out.under hb); have hx1 := HX.out.1; have hx2 := HX.out.2; unfold tyCells at hx2))
      all_goals
        go_ret
        refine ⟨ret_b ?_, hacc⟩
        rw [HE.out]
        clear HX HE hacc HF hx1 hx2 hgood hsz hnm hk hlt e hB hnc hsc
        go_tidy
        first
          | (simp_all [kindR, flatE]; done)
          | (simp_all [kindR, flatE]; omega)
set_option maxRecDepth 100000 in
set_option maxHeartbeats 4000000 in
theorem own_6 (t : Ty) (cs : Array Value) (B : Nat) (w : World) (ht : TyC w B t cs) (hB : B ≤ w.heap.size) (hn20 : (t.subs.length : Int) ≤ 20) (hk5 : (t.kind == 5) = false) (hk6 : (t.kind == 6) = true) :
    Calls Tryz.prog 115 #[.agg cs] w fun e w' => e = .returned (.bool (ownB t)) ∧ Below w.heap.size w w' := by
  obtain ⟨na, nc, sa, sc, f, rfl, hf, hn, -, hnc, hsc, -⟩ := ht.inv
  have HF := Lib.hid hf
  have HN := Lib.hid hn
  have hnm := hf.names
  unfold maxLen at hnm
  clear hf hn ht
  have hpk : ∀ s, pK t.kind s = greatB s := fun s => by simp only [beq_iff_eq] at hk6; rw [hk6]; simp [pK]
  have HPK := Lib.hid hpk
  clear hpk
  go_enter Tryz.func115, Tryz.ntmps115
  simp only [tyCells]
  go_wp2
  go_loopw [5] (fun i wr => ∃ k : Nat, k ≤ t.names.length ∧ i = .int .i64 k ∧ Below w.heap.size w wr ∧ BoxAt wr w.heap.size (tyCells t na nc sa sc) ∧ Good (pK t.kind) t.names k) (fun i _ => t.names.length - (intOf i).toNat)
  case atStart => exact ⟨0, Nat.zero_le _, rfl, (Below.refl _ _).alloc (Nat.le_refl _) _, BoxAt.new _ _ _, fun i _ hi => absurd hi (by omega)⟩
  case round =>
    obtain ⟨k, hk, rfl, hacc, hbx, hg⟩ := hrel
    have HG := Lib.hid hg
    have HX := Lib.hid hbx
    obtain ⟨hx1, hx2⟩ := hbx
    unfold tyCells at hx2
    have hsz := hacc.size
    clear hg
    by_cases hlt : k < t.names.length
    · rcases HN.out with hr | ⟨b, o, rfl, hb, hc⟩
      · rw [hr] at hlt; simp at hlt
      have HC := Lib.hid hc
      have hck : wr.cell? ⟨b, o + k, none⟩ = some (.string t.names[k]) := (hacc.cell (p := ⟨b, o + k, none⟩) (by simp; omega)).trans (hc k hlt)
      clear hc
      go_wp2_with fail
      refine (rSmall_c t.names[k] _ (HF.out.each _ (List.getElem_mem hlt))).mono ?_
      rintro e w1 ⟨rfl, hb1⟩
      have hck1 : w1.cell? ⟨b, o + k, none⟩ = some (.string t.names[k]) := (hb1.cell (p := ⟨b, o + k, none⟩) (by simp; omega)).trans hck
      have HX1 := Lib.hid (HX.out.under hb1)
      have hx3 := HX1.out.1
      have hx4 := HX1.out.2
      unfold tyCells at hx4
      have hacc1 : Below w.heap.size w w1 := acc0 hacc hsz hb1
      have hsz1 := hacc1.size
      go_wp2_with fail
      refine (rGreat_b t.names[k] _ (HF.out.each _ (List.getElem_mem hlt))).mono ?_
      rintro e w2 ⟨rfl, hb2⟩
      have hck2 : w2.cell? ⟨b, o + k, none⟩ = some (.string t.names[k]) := (hb2.cell (p := ⟨b, o + k, none⟩) (by simp; omega)).trans hck1
      have HX2 := Lib.hid (HX1.out.under hb2)
      have hx5 := HX2.out.1
      have hx6 := HX2.out.2
      unfold tyCells at hx6
      have hacc2 : Below w.heap.size w w2 := acc0 hacc1 hsz1 hb2
      clear hacc hacc1 hck hck1 hx1 hx2 hx3 hx4 hb1 hb2
      cases hsm : greatB t.names[k]
      · have HM := Lib.hid hsm
        go_wp2
        go_quiet (fail)
        go_wp2
        go_ret
        exact ⟨ret_b (by rw [ownB, good_bad (p := pK t.kind) hlt (.inl (by rw [HPK.out]; exact HM.out))]; simp), below_drewN hacc2 _⟩
      · have HM := Lib.hid hsm
        by_cases h0 : 0 < k
        · have hcp : w2.cell? ⟨b, o + (k - 1), none⟩ = some (.string (t.names[k - 1]'(by omega))) := (hacc2.cell (p := ⟨b, o + (k - 1), none⟩) (by simp; omega)).trans (HC.out (k - 1) (by omega))
          have hz1 : IntKind.i64.wrap ((k : Int) - 1) = (k : Int) - 1 := IntWalk.i64_in _ (by omega)
          have hz2 : (0 : Int) ≤ (k : Int) - 1 := by omega
          have hz3 : ((k : Int) - 1).toNat = k - 1 := by omega
          have hz4 : (k : Int) - 1 < (t.names.length : Int) := by omega
          have hz5 : decide ((0 : Int) < (k : Int)) = true := by simp; omega
          have hz6 : (0 : Int) < (k : Int) := by omega
          cases hlk : ltB (t.names[k - 1]'(by omega)) t.names[k]
          · cases hgt : Op.bytesLess t.names[k].toList (t.names[k - 1]'(by omega)).toList
            · have heq := lt_no hlk hgt
              have HL := Lib.hid hlk
              clear hlk
              go_wp2
              go_quiet (fail)
              go_wp2
              go_ret
              exact ⟨ret_b (by rw [ownB, good_bad (p := pK t.kind) hlt (.inr ⟨h0, HL.out⟩)]; simp), below_drewN hacc2 _⟩
            · have HL := Lib.hid hlk
              clear hlk
              go_wp2
              go_quiet (fail)
              go_wp2
              go_ret
              exact ⟨ret_b (by rw [ownB, good_bad (p := pK t.kind) hlt (.inr ⟨h0, HL.out⟩)]; simp), below_drewN hacc2 _⟩
          · obtain ⟨hq1, hq2⟩ := lt_yes hlk
            have HL := Lib.hid hlk
            clear hlk
            go_wp2
            go_quiet (fail)
            go_wp2
            refine ⟨⟨k + 1, by omega, by go_num, below_drewN hacc2 _, HX2.out, good_succ hlt HG.out (by rw [HPK.out]; exact HM.out) (fun _ => HL.out)⟩, by simp [intOf]; omega⟩
        · have hd : decide ((0 : Int) < (k : Int)) = false := by simp; omega
          go_wp2
          go_quiet (fail)
          go_wp2
          refine ⟨⟨k + 1, by omega, by go_num, below_drewN hacc2 _, HX2.out, good_succ hlt HG.out (by rw [HPK.out]; exact HM.out) (fun h => absurd h h0)⟩, by simp [intOf]; omega⟩
    · have e : k = t.names.length := by omega
      have hgood := Lib.hid (good_all (p := pK t.kind) (l := t.names) (by have := HG.out; rwa [e] at this))
      have HE := Lib.hid (show ownB t = kindR t by simp only [ownB, hgood.out, Bool.and_true, decide_eq_true hn20, Bool.true_and])
      clear HN HPK HG
      have k1 : (t.kind == 1) = false := by simp only [beq_iff_eq] at hk6; rw [hk6]; rfl
      have k2 : (t.kind == 2) = false := by simp only [beq_iff_eq] at hk6; rw [hk6]; rfl
      have k3 : (t.kind == 3) = false := by simp only [beq_iff_eq] at hk6; rw [hk6]; rfl
      have k4 : (t.kind == 4) = false := by simp only [beq_iff_eq] at hk6; rw [hk6]; rfl
      have k7 : (t.kind == 7) = false := by simp only [beq_iff_eq] at hk6; rw [hk6]; rfl
      have k8 : (t.kind == 8) = false := by simp only [beq_iff_eq] at hk6; rw [hk6]; rfl
      have k9 : (t.kind == 9) = false := by simp only [beq_iff_eq] at hk6; rw [hk6]; rfl
      go_wp2_with (first
        | (go_at_call 114; refine (rGreat_b _ _ HF.out.name).mono ?_; rintro e w2 ⟨rfl, hb⟩; have hacc := acc0 hacc hacc.size hb; have HX := Lib.hid (HX.out.under hb); have hx1 := HX.out.1; have hx2 := HX.out.2; unfold tyCells at hx2)
        | (go_at_call 56; refine (rSmall_c _ _ (by first | exact HF.out.mod | exact HF.out.pkg)).mono ?_; rintro e w2 ⟨rfl, hb⟩; have hacc := acc0 hacc hacc.size hb; have HX := Lib.hid (HX.out.under hb); have hx1 := HX.out.1; have hx2 := HX.out.2; unfold tyCells at hx2))
      all_goals
        go_ret
        refine ⟨ret_b ?_, hacc⟩
        rw [HE.out]
        clear HX HE hacc HF hx1 hx2 hgood hsz hnm hk hlt e hB hnc hsc
        go_tidy
        first
          | (simp_all [kindR, flatE]; done)
          | (simp_all [kindR, flatE]; omega)
set_option maxRecDepth 100000 in
set_option maxHeartbeats 4000000 in
theorem own_X (t : Ty) (cs : Array Value) (B : Nat) (w : World) (ht : TyC w B t cs) (hB : B ≤ w.heap.size) (hn20 : (t.subs.length : Int) ≤ 20) (hk5 : (t.kind == 5) = false) (hk6 : (t.kind == 6) = false) :
    Calls Tryz.prog 115 #[.agg cs] w fun e w' => e = .returned (.bool (ownB t)) ∧ Below w.heap.size w w' := by
  obtain ⟨na, nc, sa, sc, f, rfl, hf, hn, -, hnc, hsc, -⟩ := ht.inv
  have HF := Lib.hid hf
  have HN := Lib.hid hn
  have hnm := hf.names
  unfold maxLen at hnm
  clear hf hn ht
  have hpk : ∀ s, pK t.kind s = true := fun s => by simp only [beq_eq_false_iff_ne] at hk5 hk6; simp [pK, hk5, hk6]
  have HPK := Lib.hid hpk
  clear hpk
  go_enter Tryz.func115, Tryz.ntmps115
  simp only [tyCells]
  go_wp2
  go_loopw [5] (fun i wr => ∃ k : Nat, k ≤ t.names.length ∧ i = .int .i64 k ∧ Below w.heap.size w wr ∧ BoxAt wr w.heap.size (tyCells t na nc sa sc) ∧ Good (pK t.kind) t.names k) (fun i _ => t.names.length - (intOf i).toNat)
  case atStart => exact ⟨0, Nat.zero_le _, rfl, (Below.refl _ _).alloc (Nat.le_refl _) _, BoxAt.new _ _ _, fun i _ hi => absurd hi (by omega)⟩
  case round =>
    obtain ⟨k, hk, rfl, hacc, hbx, hg⟩ := hrel
    have HG := Lib.hid hg
    have HX := Lib.hid hbx
    obtain ⟨hx1, hx2⟩ := hbx
    unfold tyCells at hx2
    have hsz := hacc.size
    clear hg
    by_cases hlt : k < t.names.length
    · rcases HN.out with hr | ⟨b, o, rfl, hb, hc⟩
      · rw [hr] at hlt; simp at hlt
      have HC := Lib.hid hc
      have hck : wr.cell? ⟨b, o + k, none⟩ = some (.string t.names[k]) := (hacc.cell (p := ⟨b, o + k, none⟩) (by simp; omega)).trans (hc k hlt)
      clear hc
      go_wp2_with fail
      refine (rSmall_c t.names[k] _ (HF.out.each _ (List.getElem_mem hlt))).mono ?_
      rintro e w1 ⟨rfl, hb1⟩
      have hck1 : w1.cell? ⟨b, o + k, none⟩ = some (.string t.names[k]) := (hb1.cell (p := ⟨b, o + k, none⟩) (by simp; omega)).trans hck
      have HX1 := Lib.hid (HX.out.under hb1)
      have hx3 := HX1.out.1
      have hx4 := HX1.out.2
      unfold tyCells at hx4
      have hacc1 : Below w.heap.size w w1 := acc0 hacc hsz hb1
      have hsz1 := hacc1.size
      go_wp2_with fail
      refine (rGreat_b t.names[k] _ (HF.out.each _ (List.getElem_mem hlt))).mono ?_
      rintro e w2 ⟨rfl, hb2⟩
      have hck2 : w2.cell? ⟨b, o + k, none⟩ = some (.string t.names[k]) := (hb2.cell (p := ⟨b, o + k, none⟩) (by simp; omega)).trans hck1
      have HX2 := Lib.hid (HX1.out.under hb2)
      have hx5 := HX2.out.1
      have hx6 := HX2.out.2
      unfold tyCells at hx6
      have hacc2 : Below w.heap.size w w2 := acc0 hacc1 hsz1 hb2
      clear hacc hacc1 hck hck1 hx1 hx2 hx3 hx4 hb1 hb2
      by_cases h0 : 0 < k
      · have hcp : w2.cell? ⟨b, o + (k - 1), none⟩ = some (.string (t.names[k - 1]'(by omega))) := (hacc2.cell (p := ⟨b, o + (k - 1), none⟩) (by simp; omega)).trans (HC.out (k - 1) (by omega))
        have hz1 : IntKind.i64.wrap ((k : Int) - 1) = (k : Int) - 1 := IntWalk.i64_in _ (by omega)
        have hz2 : (0 : Int) ≤ (k : Int) - 1 := by omega
        have hz3 : ((k : Int) - 1).toNat = k - 1 := by omega
        have hz4 : (k : Int) - 1 < (t.names.length : Int) := by omega
        have hz5 : decide ((0 : Int) < (k : Int)) = true := by simp; omega
        have hz6 : (0 : Int) < (k : Int) := by omega
        cases hlk : ltB (t.names[k - 1]'(by omega)) t.names[k]
        · cases hgt : Op.bytesLess t.names[k].toList (t.names[k - 1]'(by omega)).toList
          · have heq := lt_no hlk hgt
            have HL := Lib.hid hlk
            clear hlk
            go_wp2
            go_quiet (fail)
            go_wp2
            go_ret
            exact ⟨ret_b (by rw [ownB, good_bad (p := pK t.kind) hlt (.inr ⟨h0, HL.out⟩)]; simp), below_drewN hacc2 _⟩
          · have HL := Lib.hid hlk
            clear hlk
            go_wp2
            go_quiet (fail)
            go_wp2
            go_ret
            exact ⟨ret_b (by rw [ownB, good_bad (p := pK t.kind) hlt (.inr ⟨h0, HL.out⟩)]; simp), below_drewN hacc2 _⟩
        · obtain ⟨hq1, hq2⟩ := lt_yes hlk
          have HL := Lib.hid hlk
          clear hlk
          go_wp2
          go_quiet (fail)
          go_wp2
          refine ⟨⟨k + 1, by omega, by go_num, below_drewN hacc2 _, HX2.out, good_succ hlt HG.out (HPK.out _) (fun _ => HL.out)⟩, by simp [intOf]; omega⟩
      · have hd : decide ((0 : Int) < (k : Int)) = false := by simp; omega
        go_wp2
        go_quiet (fail)
        go_wp2
        refine ⟨⟨k + 1, by omega, by go_num, below_drewN hacc2 _, HX2.out, good_succ hlt HG.out (HPK.out _) (fun h => absurd h h0)⟩, by simp [intOf]; omega⟩
    · have e : k = t.names.length := by omega
      have hgood := Lib.hid (good_all (p := pK t.kind) (l := t.names) (by have := HG.out; rwa [e] at this))
      have HE := Lib.hid (show ownB t = kindR t by simp only [ownB, hgood.out, Bool.and_true, decide_eq_true hn20, Bool.true_and])
      clear HN HPK HG
      skip
      go_wp2_with (first
        | (go_at_call 114; refine (rGreat_b _ _ HF.out.name).mono ?_; rintro e w2 ⟨rfl, hb⟩; have hacc := acc0 hacc hacc.size hb; have HX := Lib.hid (HX.out.under hb); have hx1 := HX.out.1; have hx2 := HX.out.2; unfold tyCells at hx2)
        | (go_at_call 56; refine (rSmall_c _ _ (by first | exact HF.out.mod | exact HF.out.pkg)).mono ?_; rintro e w2 ⟨rfl, hb⟩; have hacc := acc0 hacc hacc.size hb; have HX := Lib.hid (HX.out.under hb); have hx1 := HX.out.1; have hx2 := HX.out.2; unfold tyCells at hx2))
      all_goals
        go_ret
        refine ⟨ret_b ?_, hacc⟩
        rw [HE.out]
        clear HX HE hacc HF hx1 hx2 hgood hsz hnm hk hlt e hB hnc hsc
        go_tidy
        first
          | (simp_all [kindR, flatE]; done)
          | (simp_all [kindR, flatE]; omega)
set_option maxRecDepth 100000 in
theorem own_big (t : Ty) (cs : Array Value) (B : Nat) (w : World) (ht : TyC w B t cs) (hn20 : ¬ (t.subs.length : Int) ≤ 20) :
    Calls Tryz.prog 115 #[.agg cs] w fun e w' => e = .returned (.bool (ownB t)) ∧ Below w.heap.size w w' := by
  obtain ⟨na, nc, sa, sc, f, rfl, -⟩ := ht.inv
  have HE := Lib.hid (show ownB t = false by simp only [ownB, decide_eq_false hn20, Bool.false_and])
  go_enter Tryz.func115, Tryz.ntmps115
  simp only [tyCells]
  go_wp2
  go_ret
  exact ⟨ret_b HE.out.symm, (Below.refl _ _).alloc (Nat.le_refl _) _⟩
theorem own_c (t : Ty) (cs : Array Value) (B : Nat) (w : World) (ht : TyC w B t cs) (hB : B ≤ w.heap.size) :
    Calls Tryz.prog 115 #[.agg cs] w fun e w' => e = .returned (.bool (ownB t)) ∧ Below w.heap.size w w' := by
  by_cases hn : (t.subs.length : Int) ≤ 20
  · cases h5 : (t.kind == 5)
    · cases h6 : (t.kind == 6)
      · exact own_X t cs B w ht hB hn h5 h6
      · exact own_6 t cs B w ht hB hn h5 h6
    · exact own_5 t cs B w ht hB hn h5 (by simp only [beq_iff_eq] at h5; rw [h5]; rfl)
  · exact own_big t cs B w ht hn
end Go.Proofs.YtjeldfipipkfiaaGreatDoor
