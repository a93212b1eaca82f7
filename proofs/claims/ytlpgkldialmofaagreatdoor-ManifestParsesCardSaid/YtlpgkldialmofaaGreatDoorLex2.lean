/- lex.first: kind and length of the token at a text's front; strings.HasPrefix and IndexByte walked on the way. -/
import Derived.Test.YtlpgkldialmofaaGreatDoorLexL
import Derived.Lib.Bytealg
import Derived.Lib.Strings
namespace Go.Proofs.YtlpgkldialmofaaGreatDoor
open Go.RowKit
set_option linter.unusedSimpArgs false
set_option linter.unusedVariables false
theorem hasPrefixIn_c (s p : ByteArray) (w : World) :
    Calls Tryz.prog 72 #[.string s, .string p] w fun e w' => e = .returned (.bool (Lib.hasPrefix s.data.toList p.data.toList)) ∧ w = w' := by
  rw [← Lib.hasPrefix_of_take, ← Lib.size_eq, ← Lib.size_eq]
  go_enter Tryz.func72, Tryz.ntmps72
  go_wp2
  · rename_i h
    go_ret
    refine ⟨?_, rfl⟩
    show Ending.returned (Value.bool ((s.extract 0 p.size).toList == p.toList)) = _
    rw [Lib.extract_toList, Lib.toList_data]
    simp [h]
  · rename_i h
    go_ret
    refine ⟨?_, rfl⟩
    simp [h]
theorem hasPrefix_c (s p : ByteArray) (w : World) :
    Calls Tryz.prog 50 #[.string s, .string p] w fun e w' => e = .returned (.bool (Lib.hasPrefix s.data.toList p.data.toList)) ∧ w = w' := by
  go_enter Tryz.func50, Tryz.ntmps50
  go_wp2_with (go_at_call 72; refine (hasPrefixIn_c _ _ _).mono ?_; rintro e w' ⟨rfl, rfl⟩)
  go_ret
  exact ⟨rfl, rfl⟩
set_option maxRecDepth 100000 in
theorem indexByteIn_c (s : ByteArray) (c : Int) (w : World) :
    Calls Tryz.prog 73 #[.string s, .int .u8 c] w fun e w' => e = .returned (.int .i64 (Lib.indexByte s.data.toList c.toNat.toUInt8)) ∧ w = w' := by
  go_enter Tryz.func73, Tryz.ntmps73
  go_wp2
  rw [run_callFunc_extern Tryz.func85 (by kernel_rfl) (by kernel_rfl) (by kernel_rfl) (e := Extern.BytealgIndexByte.indexByte) (by kernel_rfl), Lib.run_indexByteString]
  simp only [Result.andThen]
  rw [Oper.upon_value]
  go_wp2
  go_ret
  exact ⟨rfl, rfl⟩
theorem indexByte_c (s : ByteArray) (c : Int) (w : World) :
    Calls Tryz.prog 51 #[.string s, .int .u8 c] w fun e w' => e = .returned (.int .i64 (Lib.indexByte s.data.toList c.toNat.toUInt8)) ∧ w = w' := by
  go_enter Tryz.func51, Tryz.ntmps51
  go_wp2_with (go_at_call 73; refine (indexByteIn_c _ _ _).mono ?_; rintro e w' ⟨rfl, rfl⟩)
  go_ret
  exact ⟨rfl, rfl⟩
theorem all_bytes {p : UInt8 → Prop} (h : ∀ n : Fin 256, p (UInt8.ofNat n)) (c : UInt8) : p c := by
  have := h ⟨c.toNat, c.toNat_lt⟩
  simpa using this
theorem sign_byte (c : UInt8) : decide (0 ≤ Lib.indexByte [123, 125, 40, 41, 91, 93, 60, 62, 44, 58, 46, 61] c) = signB c :=
  all_bytes (p := fun c => decide (0 ≤ Lib.indexByte [123, 125, 40, 41, 91, 93, 60, 62, 44, 58, 46, 61] c) = signB c) (by decide +kernel) c
theorem pre_two (x : UInt8) (r : List UInt8) (a b : UInt8) : Lib.hasPrefix (x :: r) [a, b] = decide (x.toNat = a.toNat ∧ (r.head?.map UInt8.toNat) = some b.toNat) := by
  cases r with
  | nil => simp [Lib.hasPrefix, List.isPrefixOf]
  | cons y r =>
    show (a == x && (b == y && List.isPrefixOf [] r)) = _
    rw [Bool.eq_iff_iff]
    simp only [Bool.and_eq_true, beq_iff_eq, decide_eq_true_eq, ← UInt8.toNat_inj, List.head?_cons, Option.map_some, Option.some.injEq, List.isPrefixOf]
    constructor
    · rintro ⟨h1, h2, -⟩; exact ⟨h1.symm, h2.symm⟩
    · rintro ⟨h1, h2⟩; exact ⟨h1.symm, h2.symm, trivial⟩
theorem run_word (s : ByteArray) (w : World) (hs : s.size ≤ 1000000) : Calls Tryz.prog 25 #[.string s, .func (.func 47) #[] #[]] w fun e w' => e = .returned (.int .i64 (runN wordC s.data.toList : Nat)) ∧ w = w' :=
  run_c 47 wordC (fun a w => by kernel_rfl) word_c s w hs
theorem run_digit (s : ByteArray) (w : World) (hs : s.size ≤ 1000000) : Calls Tryz.prog 25 #[.string s, .func (.func 49) #[] #[]] w fun e w' => e = .returned (.int .i64 (runN digitC s.data.toList : Nat)) ∧ w = w' :=
  run_c 49 digitC (fun a w => by kernel_rfl) digit_c s w hs
theorem run_line (s : ByteArray) (w : World) (hs : s.size ≤ 1000000) : Calls Tryz.prog 25 #[.string s, .func (.func 26) #[] #[]] w fun e w' => e = .returned (.int .i64 (runN lineC s.data.toList : Nat)) ∧ w = w' :=
  run_c 26 lineC (fun a w => by kernel_rfl) line_c s w hs
set_option maxRecDepth 100000 in
set_option maxHeartbeats 2000000 in
theorem first_c (s : ByteArray) (w : World) (hs0 : 0 < s.size) (hs : s.size ≤ 1000000) :
    Calls Tryz.prog 27 #[.string s] w fun e w' => e = .returned (.tuple #[.int .i64 ((firstF s.data.toList).1 : Nat), .int .i64 ((firstF s.data.toList).2 : Nat)]) ∧ w = w' := by
  obtain ⟨x, hx⟩ : ∃ x, s[0] = x := ⟨_, rfl⟩
  obtain ⟨r, hl⟩ : ∃ r, s.data.toList = x :: r := by
    have hlen := len_data s
    cases h : s.data.toList with
    | nil => rw [h] at hlen; simp at hlen; omega
    | cons y r =>
      refine ⟨r, ?_⟩
      have e : s[0] = s.data.toList[0]'(by rw [hlen]; exact hs0) := rfl
      have : s[0] = y := by rw [e]; simp [h]
      rw [← hx, this]
  obtain ⟨K, hK⟩ : ∃ K, firstF s.data.toList = K := ⟨_, rfl⟩
  obtain ⟨K1, K2⟩ := K
  rw [hK]
  rw [hl, firstF_cons] at hK
  have hltI : (0 : Int) < (s.size : Int) := by omega
  have HL := Lib.hid hl
  clear hl
  have hp1 : Lib.hasPrefix s.data.toList ({ data := #[45, 62] } : ByteArray).data.toList = decide (x.toNat = 45 ∧ (r.head?.map UInt8.toNat) = some 62) := by rw [HL.out]; exact pre_two x r 45 62
  have hp2 : Lib.hasPrefix s.data.toList ({ data := #[46, 46] } : ByteArray).data.toList = decide (x.toNat = 46 ∧ (r.head?.map UInt8.toNat) = some 46) := by rw [HL.out]; exact pre_two x r 46 46
  have hsg : decide (0 ≤ Lib.indexByte ({ data := #[123, 125, 40, 41, 91, 93, 60, 62, 44, 58, 46, 61] } : ByteArray).data.toList x) = signB x := sign_byte x
  obtain ⟨V1, hV1⟩ : ∃ v, smallC x = v := ⟨_, rfl⟩
  obtain ⟨V2, hV2⟩ : ∃ v, greatC x = v := ⟨_, rfl⟩
  obtain ⟨V3, hV3⟩ : ∃ v, digitC x = v := ⟨_, rfl⟩
  obtain ⟨V4, hV4⟩ : ∃ v, Lib.hasPrefix s.data.toList ({ data := #[45, 62] } : ByteArray).data.toList = v := ⟨_, rfl⟩
  obtain ⟨V5, hV5⟩ : ∃ v, Lib.hasPrefix s.data.toList ({ data := #[46, 46] } : ByteArray).data.toList = v := ⟨_, rfl⟩
  obtain ⟨V6, hV6⟩ : ∃ v, Lib.indexByte ({ data := #[123, 125, 40, 41, 91, 93, 60, 62, 44, 58, 46, 61] } : ByteArray).data.toList x = v := ⟨_, rfl⟩
  have hk : (K1, K2) = if V1 then (1, runN wordC s.data.toList) else if V2 then (2, runN wordC s.data.toList) else if V3 then (3, runN digitC s.data.toList) else if V4 then (4, 2) else if V5 then (4, 2) else if 0 ≤ V6 then (4, 1) else (0, 0) := by
    rw [← hV1, ← hV2, ← hV3, ← hV4, ← hV5, ← hV6, ← hK, hp1, hp2]
    simp only [← hsg, decide_eq_true_eq, HL.out]
  have HK := Lib.hid hk
  have H1 := Lib.hid hV1
  have H2 := Lib.hid hV2
  have H3 := Lib.hid hV3
  have H4 := Lib.hid hV4
  have H5 := Lib.hid hV5
  have H6 := Lib.hid hV6
  have HS := Lib.hid hs
  clear hk hV1 hV2 hV3 hV4 hV5 hV6 hp1 hp2 hsg hK hs HL
  have HX := Lib.hid hx
  clear hx
  cases V1
  rotate_left
  · obtain ⟨rfl, rfl⟩ := Prod.mk.inj HK.out
    clear HK
    go_enter Tryz.func27, Tryz.ntmps27
    go_wp2_with (first
      | (go_at_call 46; refine (small_c _ _).mono ?_; rintro e w' ⟨rfl, rfl⟩; rw [HX.out, H1.out])
      | (go_at_call 48; refine (great_c _ _).mono ?_; rintro e w' ⟨rfl, rfl⟩; rw [H2.out])
      | (go_at_call 49; refine (digit_c _ _).mono ?_; rintro e w' ⟨rfl, rfl⟩; rw [H3.out])
      | (go_at_call 50; refine (hasPrefix_c _ _ _).mono ?_; rintro e w' ⟨rfl, rfl⟩; first | rw [H4.out] | rw [H5.out])
      | (go_at_call 51; refine (indexByte_c _ _ _).mono ?_; rintro e w' ⟨rfl, rfl⟩; rw [show ((x.toNat : Int).toNat.toUInt8) = x from by simp, H6.out])
      | (go_at_call 25; refine (run_word s _ HS.out).mono ?_; rintro e w' ⟨rfl, rfl⟩))
    refine bodyPost_ret (by simp [results, Tryz.results27, go_sem]; try rfl) rfl ?_
    exact ⟨rfl, rfl⟩
  cases V2
  rotate_left
  · obtain ⟨rfl, rfl⟩ := Prod.mk.inj HK.out
    clear HK
    go_enter Tryz.func27, Tryz.ntmps27
    go_wp2_with (first
      | (go_at_call 46; refine (small_c _ _).mono ?_; rintro e w' ⟨rfl, rfl⟩; rw [HX.out, H1.out])
      | (go_at_call 48; refine (great_c _ _).mono ?_; rintro e w' ⟨rfl, rfl⟩; rw [H2.out])
      | (go_at_call 49; refine (digit_c _ _).mono ?_; rintro e w' ⟨rfl, rfl⟩; rw [H3.out])
      | (go_at_call 50; refine (hasPrefix_c _ _ _).mono ?_; rintro e w' ⟨rfl, rfl⟩; first | rw [H4.out] | rw [H5.out])
      | (go_at_call 51; refine (indexByte_c _ _ _).mono ?_; rintro e w' ⟨rfl, rfl⟩; rw [show ((x.toNat : Int).toNat.toUInt8) = x from by simp, H6.out])
      | (go_at_call 25; refine (run_word s _ HS.out).mono ?_; rintro e w' ⟨rfl, rfl⟩))
    refine bodyPost_ret (by simp [results, Tryz.results27, go_sem]; try rfl) rfl ?_
    exact ⟨rfl, rfl⟩
  cases V3
  rotate_left
  · obtain ⟨rfl, rfl⟩ := Prod.mk.inj HK.out
    clear HK
    go_enter Tryz.func27, Tryz.ntmps27
    go_wp2_with (first
      | (go_at_call 46; refine (small_c _ _).mono ?_; rintro e w' ⟨rfl, rfl⟩; rw [HX.out, H1.out])
      | (go_at_call 48; refine (great_c _ _).mono ?_; rintro e w' ⟨rfl, rfl⟩; rw [H2.out])
      | (go_at_call 49; refine (digit_c _ _).mono ?_; rintro e w' ⟨rfl, rfl⟩; rw [H3.out])
      | (go_at_call 50; refine (hasPrefix_c _ _ _).mono ?_; rintro e w' ⟨rfl, rfl⟩; first | rw [H4.out] | rw [H5.out])
      | (go_at_call 51; refine (indexByte_c _ _ _).mono ?_; rintro e w' ⟨rfl, rfl⟩; rw [show ((x.toNat : Int).toNat.toUInt8) = x from by simp, H6.out])
      | (go_at_call 25; refine (run_digit s _ HS.out).mono ?_; rintro e w' ⟨rfl, rfl⟩))
    refine bodyPost_ret (by simp [results, Tryz.results27, go_sem]; try rfl) rfl ?_
    exact ⟨rfl, rfl⟩
  cases V4
  rotate_left
  · obtain ⟨rfl, rfl⟩ := Prod.mk.inj HK.out
    clear HK
    go_enter Tryz.func27, Tryz.ntmps27
    go_wp2_with (first
      | (go_at_call 46; refine (small_c _ _).mono ?_; rintro e w' ⟨rfl, rfl⟩; rw [HX.out, H1.out])
      | (go_at_call 48; refine (great_c _ _).mono ?_; rintro e w' ⟨rfl, rfl⟩; rw [H2.out])
      | (go_at_call 49; refine (digit_c _ _).mono ?_; rintro e w' ⟨rfl, rfl⟩; rw [H3.out])
      | (go_at_call 50; refine (hasPrefix_c _ _ _).mono ?_; rintro e w' ⟨rfl, rfl⟩; first | rw [H4.out] | rw [H5.out])
      | (go_at_call 51; refine (indexByte_c _ _ _).mono ?_; rintro e w' ⟨rfl, rfl⟩; rw [show ((x.toNat : Int).toNat.toUInt8) = x from by simp, H6.out]))

    refine bodyPost_ret (by simp [results, Tryz.results27, go_sem]; try rfl) rfl ?_
    exact ⟨rfl, rfl⟩
  cases V5
  rotate_left
  · obtain ⟨rfl, rfl⟩ := Prod.mk.inj HK.out
    clear HK
    go_enter Tryz.func27, Tryz.ntmps27
    go_wp2_with (first
      | (go_at_call 46; refine (small_c _ _).mono ?_; rintro e w' ⟨rfl, rfl⟩; rw [HX.out, H1.out])
      | (go_at_call 48; refine (great_c _ _).mono ?_; rintro e w' ⟨rfl, rfl⟩; rw [H2.out])
      | (go_at_call 49; refine (digit_c _ _).mono ?_; rintro e w' ⟨rfl, rfl⟩; rw [H3.out])
      | (go_at_call 50; refine (hasPrefix_c _ _ _).mono ?_; rintro e w' ⟨rfl, rfl⟩; first | rw [H4.out] | rw [H5.out])
      | (go_at_call 51; refine (indexByte_c _ _ _).mono ?_; rintro e w' ⟨rfl, rfl⟩; rw [show ((x.toNat : Int).toNat.toUInt8) = x from by simp, H6.out]))

    refine bodyPost_ret (by simp [results, Tryz.results27, go_sem]; try rfl) rfl ?_
    exact ⟨rfl, rfl⟩
  by_cases h6 : 0 ≤ V6
  · obtain ⟨rfl, rfl⟩ := Prod.mk.inj (HK.out.trans (if_pos h6))
    clear HK
    go_enter Tryz.func27, Tryz.ntmps27
    go_wp2_with (first
      | (go_at_call 46; refine (small_c _ _).mono ?_; rintro e w' ⟨rfl, rfl⟩; rw [HX.out, H1.out])
      | (go_at_call 48; refine (great_c _ _).mono ?_; rintro e w' ⟨rfl, rfl⟩; rw [H2.out])
      | (go_at_call 49; refine (digit_c _ _).mono ?_; rintro e w' ⟨rfl, rfl⟩; rw [H3.out])
      | (go_at_call 50; refine (hasPrefix_c _ _ _).mono ?_; rintro e w' ⟨rfl, rfl⟩; first | rw [H4.out] | rw [H5.out])
      | (go_at_call 51; refine (indexByte_c _ _ _).mono ?_; rintro e w' ⟨rfl, rfl⟩; rw [show ((x.toNat : Int).toNat.toUInt8) = x from by simp, H6.out]))

    refine bodyPost_ret (by simp [results, Tryz.results27, go_sem]; try rfl) rfl ?_
    exact ⟨rfl, rfl⟩
  · obtain ⟨rfl, rfl⟩ := Prod.mk.inj (HK.out.trans (if_neg h6))
    clear HK
    go_enter Tryz.func27, Tryz.ntmps27
    go_wp2_with (first
      | (go_at_call 46; refine (small_c _ _).mono ?_; rintro e w' ⟨rfl, rfl⟩; rw [HX.out, H1.out])
      | (go_at_call 48; refine (great_c _ _).mono ?_; rintro e w' ⟨rfl, rfl⟩; rw [H2.out])
      | (go_at_call 49; refine (digit_c _ _).mono ?_; rintro e w' ⟨rfl, rfl⟩; rw [H3.out])
      | (go_at_call 50; refine (hasPrefix_c _ _ _).mono ?_; rintro e w' ⟨rfl, rfl⟩; first | rw [H4.out] | rw [H5.out])
      | (go_at_call 51; refine (indexByte_c _ _ _).mono ?_; rintro e w' ⟨rfl, rfl⟩; rw [show ((x.toNat : Int).toNat.toUInt8) = x from by simp, H6.out]))

    refine bodyPost_ret (by simp [results, Tryz.results27, go_sem]; try rfl) rfl ?_
    exact ⟨rfl, rfl⟩
end Go.Proofs.YtlpgkldialmofaaGreatDoor
