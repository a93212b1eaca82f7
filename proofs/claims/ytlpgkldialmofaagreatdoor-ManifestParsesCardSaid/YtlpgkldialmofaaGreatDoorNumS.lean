/- semver.number at any text. -/
import Derived.Test.YtlpgkldialmofaaGreatDoorVerL
import Derived.Test.YtlpgkldialmofaaGreatDoorSem2
import Derived.Laws.BitsLemmas
namespace Go.Proofs.YtlpgkldialmofaaGreatDoor
open Go.RowKit
set_option linter.unusedSimpArgs false
set_option linter.unusedVariables false
theorem len_dataV (s : ByteArray) : s.data.toList.length = s.size := by show s.data.toList.length = s.data.size; rw [Array.length_toList]
theorem take_succV {s : ByteArray} {k : Nat} (h : k < s.size) : s.data.toList.take (k + 1) = s.data.toList.take k ++ [s[k]] := by
  rw [List.take_succ_eq_append_getElem (by rw [len_dataV]; exact h)]
  rfl
theorem emptyV {s : ByteArray} (h : s.size = 0) : s = { data := #[] } := by
  apply ByteArray.ext
  exact Array.eq_empty_of_size_eq_zero h
theorem digB_iff {c : UInt8} : digB c = true ↔ 48 ≤ (c.toNat : Int) ∧ (c.toNat : Int) ≤ 57 := by simp [digB]; omega
theorem num_bad {s : ByteArray} (h : s.size = 0 ∨ 9 < s.size ∨ (1 < s.size ∧ s.data.toList.head? = some 48)) : numF s.data.toList = -1 := by
  rw [numF, if_pos]
  rw [len_dataV]
  rcases h with h | h | h
  · left; exact List.eq_nil_of_length_eq_zero (by rw [len_dataV]; exact h)
  · right; left; exact h
  · right; right; left; exact h
theorem num_char {s : ByteArray} {k : Nat} (hk : k < s.size) (h : digB s[k] = false) : numF s.data.toList = -1 := by
  rw [numF, if_pos]
  right; right; right
  intro hh
  have hl : k < s.data.toList.length := by rw [len_dataV]; exact hk
  have := hh s[k] (List.getElem_mem hl)
  rw [h] at this; cases this
theorem num_ok {s : ByteArray} (h0 : 0 < s.size) (h9 : s.size ≤ 9) (hz : ¬ (1 < s.size ∧ s.data.toList.head? = some 48)) (hd : ∀ c ∈ s.data.toList, digB c = true) : numF s.data.toList = (valF 0 s.data.toList : Nat) := by
  rw [numF, if_neg]
  rw [len_dataV]
  rintro (h | h | h | h)
  · have := len_dataV s; rw [h] at this; simp at this; omega
  · omega
  · exact hz h
  · exact h hd
theorem head_zero {s : ByteArray} (h : 0 < s.size) : s.data.toList.head? = some s[0] := by
  have hl : 0 < s.data.toList.length := by rw [len_dataV]; exact h
  rw [List.head?_eq_getElem?, List.getElem?_eq_getElem hl]
  rfl
/-- what the loop holds behind k bytes -/
def NumRel (s : ByteArray) (k : Nat) (n : Int) : Prop := k ≤ s.size ∧ n = (valF 0 (s.data.toList.take k) : Nat) ∧ 0 ≤ n ∧ n < 10 ^ k ∧ ∀ c ∈ s.data.toList.take k, digB c = true
theorem NumRel.start (s : ByteArray) : NumRel s 0 0 := ⟨Nat.zero_le _, by simp [valF_nil], by omega, by omega, by simp⟩
theorem NumRel.step {s : ByteArray} {k : Nat} {n : Int} (h : NumRel s k n) (hk : k < s.size) (hd : digB s[k] = true) : NumRel s (k + 1) (10 * n + ((s[k].toNat : Int) - 48)) := by
  obtain ⟨h1, h2, h3, h4, h5⟩ := h
  have hb := digB_iff.1 hd
  refine ⟨hk, ?_, by omega, by rw [Int.pow_succ]; omega, ?_⟩
  · rw [take_succV hk, valF_app, valF_cons, valF_nil]; omega
  · rw [take_succV hk]
    intro c hc
    rcases List.mem_append.1 hc with hc | hc
    · exact h5 c hc
    · simp at hc; subst hc; exact hd
theorem NumRel.le {s : ByteArray} {k : Nat} {n : Int} (h : NumRel s k n) (h9 : k ≤ 9) : n < 1000000000 := by
  have := h.2.2.2.1
  have hp : (10 : Int) ^ k ≤ 10 ^ 9 := by
    have := Nat.pow_le_pow_right (n := 10) (by omega) h9
    exact_mod_cast this
  omega
theorem NumRel.done {s : ByteArray} {n : Int} (h : NumRel s s.size n) (h0 : 0 < s.size) (h9 : s.size ≤ 9) (hz : ¬ (1 < s.size ∧ s.data.toList.head? = some 48)) : numF s.data.toList = n := by
  obtain ⟨h1, h2, h3, h4, h5⟩ := h
  rw [← len_dataV, List.take_length] at h2 h5
  rw [num_ok h0 h9 hz h5, h2]
set_option maxRecDepth 100000 in
set_option maxHeartbeats 4000000 in
theorem number_c (s : ByteArray) (w : World) : Calls Tryz.prog 33 #[.string s] w fun e w' => e = .returned (.int .i64 (numF s.data.toList)) ∧ w = w' := by
  obtain ⟨v, hv⟩ : ∃ v, numF s.data.toList = v := ⟨_, rfl⟩
  have HV := Lib.hid hv
  rw [hv]
  clear hv
  by_cases h0 : s.size = 0
  · have hs := emptyV h0
    subst hs
    have e : v = -1 := by rw [← HV.out]; rfl
    subst e
    go_enter Tryz.func33, Tryz.ntmps33
    go_wp2
    go_ret
    exact ⟨rfl, rfl⟩
  have hne : s.toList.isEmpty = false := by
    rw [ByteArray.toList_eq]
    cases he : s.data.toList with
    | nil => have := len_dataV s; rw [he] at this; simp at this; omega
    | cons x r => rfl
  by_cases h9 : 9 < s.size
  · have e : v = -1 := by rw [← HV.out]; exact num_bad (.inr (.inl h9))
    subst e
    have h9I : (9 : Int) < (s.size : Int) := by omega
    go_enter Tryz.func33, Tryz.ntmps33
    go_wp2
    go_ret
    exact ⟨rfl, rfl⟩
  have h9I : ¬ (9 : Int) < (s.size : Int) := by omega
  have hpos : 0 < s.size := by omega
  by_cases hz : 1 < s.size ∧ s.data.toList.head? = some 48
  · have e : v = -1 := by rw [← HV.out]; exact num_bad (.inr (.inr hz))
    subst e
    have h1I : (1 : Int) < (s.size : Int) := by omega
    have hc : (s[0].toNat : Int) = 48 := by
      have := hz.2
      rw [head_zero hpos] at this
      injection this with this
      rw [this]; rfl
    clear hz
    go_enter Tryz.func33, Tryz.ntmps33
    go_wp2
    go_ret
    exact ⟨rfl, rfl⟩
  have HZ := Lib.hid hz
  go_enter Tryz.func33, Tryz.ntmps33
  go_upto_region 1 with fail
  go_cut [21] (fun s21 wx => s21 = .bool false ∧ w = wx)
  case first =>
    by_cases h1 : 1 < s.size
    · have h1I : (1 : Int) < (s.size : Int) := by omega
      have hc : ((s[0].toNat : Int) == 48) = false := by
        have : ¬ s[0] = 48 := fun e => hz ⟨h1, by rw [head_zero hpos, e]⟩
        have h2 : ¬ s[0].toNat = 48 := fun e => this (UInt8.toNat_inj.1 e)
        simp; omega
      go_wp2_with fail
      go_meet
      exact ⟨rfl, rfl⟩
    · have h1I : ¬ (1 : Int) < (s.size : Int) := by omega
      go_wp2_with fail
      go_meet
      exact ⟨rfl, rfl⟩
  case rest =>
  obtain ⟨rfl, rfl⟩ := hcut
  clear hz hne
  go_wp2_with fail
  go_loopw [3, 4, 24] (fun n _ i wr => w = wr ∧ ∃ (k : Nat) (x : Int), i = .int .i64 k ∧ n = .int .i64 x ∧ NumRel s k x) (fun _ _ i _ => s.size - (intOf i).toNat)
  case atStart => exact ⟨rfl, 0, 0, rfl, rfl, NumRel.start s⟩
  case round =>
    obtain ⟨rfl, k, x, rfl, rfl, hrel⟩ := hrel
    have hk := hrel.1
    have hx0 := hrel.2.2.1
    have hx9 := hrel.le (by omega)
    have HRL := Lib.hid hrel
    clear hrel
    by_cases hlt : k < s.size
    · have hltI : (k : Int) < (s.size : Int) := by omega
      cases hd : digB s[k]
      · have e : v = -1 := by rw [← HV.out]; exact num_char hlt hd
        subst e
        have hb : ¬ (48 ≤ (s[k].toNat : Int) ∧ (s[k].toNat : Int) ≤ 57) := fun h => by rw [digB_iff.2 h] at hd; cases hd
        clear hd
        by_cases hlo : (s[k].toNat : Int) < 48
        · go_wp2_with fail
          go_ret
          exact ⟨rfl, rfl⟩
        · have hhi : 57 < (s[k].toNat : Int) := by omega
          clear hb
          go_wp2_with fail
          go_ret
          exact ⟨rfl, rfl⟩
      · have HR2 := Lib.hid (HRL.out.step hlt hd)
        obtain ⟨hlo, hhi⟩ := digB_iff.1 hd
        clear hd
        obtain ⟨X, hX⟩ : ∃ X : Int, (s[k].toNat : Int) = X := ⟨_, rfl⟩
        have hlo2 : ¬ X < 48 := by omega
        have hhi2 : ¬ 57 < X := by omega
        have hw : IntKind.u8.wrap (X - 48) = X - 48 := by rw [IntKind.wrap_u8]; omega
        have hw2 : IntKind.i64.wrap (X - 48) = X - 48 := by rw [IntKind.wrap_i64]; omega
        have hw3 : IntKind.i64.wrap (10 * x) = 10 * x := by rw [IntKind.wrap_i64]; omega
        have hw4 : IntKind.i64.wrap (10 * x + (X - 48)) = 10 * x + (X - 48) := by rw [IntKind.wrap_i64]; omega
        have HR3 := Lib.hid (show NumRel s (k + 1) (10 * x + (X - 48)) by rw [← hX]; exact HR2.out)
        clear HR2 hlo hhi
        go_wp2_with fail
        exact ⟨⟨trivial, k + 1, _, by go_num, rfl, HR3.out⟩, by simp [intOf]; omega⟩
    · have e : k = s.size := by omega
      subst e
      have hx := HRL.out.done hpos (by omega) HZ.out
      rw [HV.out] at hx
      subst hx
      have hltI : ¬ (s.size : Int) < (s.size : Int) := by omega
      go_wp2_with fail
      go_ret
      exact ⟨rfl, rfl⟩
end Go.Proofs.YtlpgkldialmofaaGreatDoor
