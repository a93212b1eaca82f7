/- The contract of slices.BinarySearch over texts that rise; no condition but that they rise. -/
import Derived.Test.YtjeldfipipkfiaaGreatDoorPlain
namespace Go.Proofs.YtjeldfipipkfiaaGreatDoor
open Go.RowKit
set_option linter.unusedSimpArgs false
set_option linter.unusedVariables false
theorem less_irrefl : ∀ x : List UInt8, Op.bytesLess x x = false
  | [] => rfl
  | a :: x => by
    have : ¬ a < a := fun e => by have := UInt8.lt_iff_toNat_lt.1 e; omega
    simp [Op.bytesLess, less_irrefl x, this]
theorem less_trans : ∀ x y z : List UInt8, Op.bytesLess x y = true → Op.bytesLess y z = true → Op.bytesLess x z = true
  | _, [], _, h, _ => by simp [Op.bytesLess] at h
  | _, _ :: _, [], _, h => by simp [Op.bytesLess] at h
  | [], _ :: _, _ :: _, _, _ => rfl
  | a :: x, b :: y, c :: z, h1, h2 => by
    simp only [Op.bytesLess, Bool.or_eq_true, Bool.and_eq_true, decide_eq_true_eq, beq_iff_eq] at h1 h2 ⊢
    rcases h1 with h1 | ⟨rfl, h1⟩ <;> rcases h2 with h2 | ⟨rfl, h2⟩
    · exact .inl (by rw [UInt8.lt_iff_toNat_lt] at *; omega)
    · exact .inl h1
    · exact .inl h2
    · exact .inr ⟨rfl, less_trans x y z h1 h2⟩
theorem ltB_trans {a b c : ByteArray} (h1 : ltB a b = true) (h2 : ltB b c = true) : ltB a c = true := less_trans _ _ _ h1 h2
theorem ltB_irrefl (a : ByteArray) : ltB a a = false := less_irrefl _
theorem rise_lt {l : List ByteArray} (h : riseB l = true) : ∀ (i j : Nat) (hij : i < j) (hj : j < l.length), ltB (l[i]'(by omega)) l[j] = true := by
  intro i j
  induction j with
  | zero => intro hij; omega
  | succ j ih =>
    intro hij hj
    have h1 := (riseB_iff l).1 h j hj
    by_cases e : i = j
    · subst e; exact h1
    · exact ltB_trans (ih (by omega) (by omega)) h1
theorem isNaN_c (s : ByteArray) (w : World) : Calls Tryz.prog 137 #[.string s] w fun e w' => e = .returned (.bool false) ∧ w = w' := by
  go_enter Tryz.func137, Tryz.ntmps137
  go_wp2
  go_ret
  exact ⟨rfl, rfl⟩
theorem isNaNs_c (s : ByteArray) (w : World) : Calls Tryz.prog 250 #[.string s] w fun e w' => e = .returned (.bool false) ∧ w = w' := by
  go_enter Tryz.func250, Tryz.ntmps250
  go_wp2
  go_ret
  exact ⟨rfl, rfl⟩
theorem less_c (a b : ByteArray) (w : World) : Calls Tryz.prog 178 #[.string a, .string b] w fun e w' => e = .returned (.bool (ltB a b)) ∧ w = w' := by
  go_enter Tryz.func178, Tryz.ntmps178
  go_wp2_with (go_at_call 137; refine (isNaN_c _ _).mono ?_; rintro e w' ⟨rfl, rfl⟩)
  go_ret
  exact ⟨rfl, rfl⟩
set_option maxHeartbeats 1000000 in
theorem bsearch_c (A : Option Addr) (c B : Nat) (l : List ByteArray) (s : ByteArray) (w : World) (hl : l.length ≤ 1000) (hr : StrsAt w B A l) (hrise : riseB l = true) :
    Calls Tryz.prog 246 #[.slice A l.length c, .string s] w fun e w' => (∃ i : Int, e = .returned (.tuple #[.int .i64 i, .bool (memB s l)]) ∧ (memB s l = true → i = firstOf l s)) ∧ w = w' := by
  have HR := Lib.hid hrise
  clear hrise
  go_enter Tryz.func246, Tryz.ntmps246
  go_wp2
  go_loop [7, 8] (fun i j => ∃ p q : Nat, p ≤ q ∧ q ≤ l.length ∧ i = .int .i64 p ∧ j = .int .i64 q ∧ (∀ x (hx : x < l.length), x < p → ltB l[x] s = true) ∧ (∀ x (hx : x < l.length), q ≤ x → ltB l[x] s = false)) (fun i j => (intOf j).toNat - (intOf i).toNat)
  case atStart => exact ⟨0, l.length, Nat.zero_le _, Nat.le_refl _, rfl, rfl, fun x _ h => absurd h (by omega), fun x hx h => absurd h (by omega)⟩
  case round =>
    obtain ⟨p, q, hpq, hq, rfl, rfl, h1, h2⟩ := hrel
    have H1 := Lib.hid h1
    have H2 := Lib.hid h2
    clear h1 h2
    by_cases hlt : p < q
    · rcases hr with hr | ⟨b, o, rfl, hb, hc⟩
      · subst hr; simp at hq; omega
      have hm : (p + q) / 2 < l.length := by omega
      have hck := hc ((p + q) / 2) hm
      have HC := Lib.hid hc
      clear hc
      go_wp2_with fail
      refine (less_c _ _ _).mono ?_
      rintro e w1 ⟨rfl, rfl⟩
      cases hx : ltB l[(p + q) / 2] s
      · have HX := Lib.hid hx
        go_wp2
        refine ⟨⟨p, (p + q) / 2, by omega, by omega, rfl, by go_num, H1.out, fun x hx' hge => ?_⟩, by simp [intOf]; omega⟩
        by_cases e : x = (p + q) / 2
        · subst e; exact HX.out
        · cases hy : ltB l[x] s
          · rfl
          · have := ltB_trans (rise_lt HR.out ((p + q) / 2) x (by omega) hx') hy
            rw [HX.out] at this; cases this
      · have HX := Lib.hid hx
        go_wp2
        refine ⟨⟨(p + q) / 2 + 1, q, by omega, by omega, by go_num, rfl, fun x hx' hlt' => ?_, H2.out⟩, by simp [intOf]; omega⟩
        by_cases e : x = (p + q) / 2
        · subst e; exact HX.out
        · exact ltB_trans (rise_lt HR.out x ((p + q) / 2) (by omega) hm) HX.out
    · have e : p = q := by omega
      subst e
      by_cases hpn : p < l.length
      · rcases hr with hr | ⟨b, o, rfl, hb, hc⟩
        · subst hr; simp at hpn
        have hck := hc p hpn
        clear hc
        by_cases hx : l[p] = s
        · have hq1 := ba_yes hx
          have HX := Lib.hid hx
          clear hx
          go_wp2_with (go_at_call 250; refine (isNaNs_c _ _).mono ?_; rintro e w' ⟨rfl, rfl⟩)
          go_ret2
          have hm : memB s l = true := (memB_iff s l).2 (by rw [← HX.out]; exact List.getElem_mem hpn)
          refine ⟨⟨p, by rw [hm]; rfl, fun _ => ?_⟩, rfl⟩
          rw [firstOf_hit l s p hpn HX.out (fun j hj e => by
            have := H1.out j (by omega) hj
            rw [e, ltB_irrefl] at this; cases this)]
        · have hq1 := ba_no hx
          have HX := Lib.hid hx
          clear hx
          go_wp2_with (go_at_call 250; refine (isNaNs_c _ _).mono ?_; rintro e w' ⟨rfl, rfl⟩)
          go_ret2
          have hm : memB s l = false := by
            cases hm : memB s l
            · rfl
            · obtain ⟨j, hj, e⟩ := List.getElem_of_mem ((memB_iff s l).1 hm)
              by_cases hjp : j < p
              · have := H1.out j hj hjp
                rw [e, ltB_irrefl] at this; cases this
              · by_cases e2 : j = p
                · subst e2; exact absurd e HX.out
                · have h1 := rise_lt HR.out p j (by omega) hj
                  have h2 := H2.out p hpn (Nat.le_refl _)
                  rw [e] at h1
                  rw [h1] at h2; cases h2
          exact ⟨⟨p, by rw [hm]; rfl, fun h => by rw [hm] at h; cases h⟩, rfl⟩
      · go_wp2
        go_ret2
        have hm : memB s l = false := by
          cases hm : memB s l
          · rfl
          · obtain ⟨j, hj, e⟩ := List.getElem_of_mem ((memB_iff s l).1 hm)
            have := H1.out j hj (by omega)
            rw [e, ltB_irrefl] at this; cases this
        exact ⟨⟨p, by rw [hm]; rfl, fun h => by rw [hm] at h; cases h⟩, rfl⟩
end Go.Proofs.YtjeldfipipkfiaaGreatDoor
