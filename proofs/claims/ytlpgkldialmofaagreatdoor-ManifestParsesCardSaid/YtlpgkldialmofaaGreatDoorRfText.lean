/- The contract of merlonref14.text: five tokens' texts put together; premise: texts of no more than 20000 bytes each. -/
import Derived.Test.YtlpgkldialmofaaGreatDoorManL2
import Derived.Test.YtlpgkldialmofaaGreatDoorTokM
namespace Go.Proofs.YtlpgkldialmofaaGreatDoor
open Go.RowKit
set_option linter.unusedSimpArgs false
set_option linter.unusedVariables false
/-- a row of tokens that lies below block N -/
def TokLow (w : World) (N : Nat) (v : Value) (ts : List Tok) : Prop :=
  ∃ p cap, v = .slice p ts.length cap ∧ (0 < ts.length → ∃ b o, p = some ⟨b, o, none⟩ ∧ b < N ∧ ∀ i (h : i < ts.length),
    w.cell? ⟨b, o + i * 3, none⟩ = some (.int .i64 (ts[i].kind : Nat)) ∧ w.cell? ⟨b, o + i * 3 + 1, none⟩ = some (.int .i64 (ts[i].at_ : Nat)) ∧ w.cell? ⟨b, o + i * 3 + 2, none⟩ = some (.string ts[i].text))
theorem TokLow.of {w : World} {v : Value} {ts : List Tok} (h : TokAt w v ts) : TokLow w w.heap.size v ts := by
  obtain ⟨p, cap, e, hc⟩ := h
  refine ⟨p, cap, e, fun h0 => ?_⟩
  obtain ⟨b, o, e2, h⟩ := hc h0
  exact ⟨b, o, e2, cell_lt (h 0 h0).1, h⟩
theorem TokLow.keep {w w' : World} {N : Nat} {v : Value} {ts : List Tok} (h : TokLow w N v ts) (hk : ∀ p : Addr, p.block < N → w'.cell? p = w.cell? p) : TokLow w' N v ts := by
  obtain ⟨p, cap, e, hc⟩ := h
  refine ⟨p, cap, e, fun h0 => ?_⟩
  obtain ⟨b, o, e2, hb, h⟩ := hc h0
  exact ⟨b, o, e2, hb, fun i hi => ⟨(hk _ hb).trans (h i hi).1, (hk _ hb).trans (h i hi).2.1, (hk _ hb).trans (h i hi).2.2⟩⟩
theorem TokLow.mono {w : World} {N N' : Nat} {v : Value} {ts : List Tok} (h : TokLow w N v ts) (hN : N ≤ N') : TokLow w N' v ts := by
  obtain ⟨p, cap, e, hc⟩ := h
  refine ⟨p, cap, e, fun h0 => ?_⟩
  obtain ⟨b, o, e2, hb, h⟩ := hc h0
  exact ⟨b, o, e2, Nat.lt_of_lt_of_le hb hN, h⟩
theorem catL_snoc (xs : List ByteArray) (a k : Nat) (h : a + k < xs.length) : catL ((xs.drop a).take (k + 1)) = catL ((xs.drop a).take k) ++ xs[a + k].data.toList := by
  rw [List.take_add_one, catL_app, List.getElem?_drop, List.getElem?_eq_getElem h]
  simp [catL]
theorem ret_s {a b : ByteArray} (h : a = b) : Ending.returned (.string a) = Ending.returned (.string b) := by rw [h]
set_option maxHeartbeats 4000000 in
theorem refText_c (ts : List Tok) (v : Value) (N : Nat) (w : World) (h : TokLow w N v ts) (a : Nat) (ha : a ≤ ts.length) (hl : ts.length ≤ 20000) (hs : ∀ t ∈ ts, t.text.size ≤ 20000) :
    Calls Tryz.prog 20 #[v, .int .i64 a, .int .i64 5] w fun e w' => e = .returned (.string (ba (catL (((ts.map Tok.text).drop a).take 5)))) ∧ w' = w := by
  obtain ⟨p, cap, rfl, hc⟩ := h
  have HC := Lib.hid hc
  have HS := Lib.hid hs
  clear hc hs
  go_enter Tryz.func20, Tryz.ntmps20
  go_wp2_with fail
  go_loop [7, 8] (fun s i => ∃ k : Nat, k ≤ 5 ∧ a + k ≤ ts.length ∧ i = .int .i64 ((a + k : Nat) : Int) ∧ s = .string (ba (catL (((ts.map Tok.text).drop a).take k)))) (fun _ i => a + 5 - (intOf i).toNat)
  case atStart => exact ⟨0, by omega, ha, rfl, rfl⟩
  case round =>
    obtain ⟨k, hk, hak, rfl, rfl⟩ := hrel
    by_cases hlt : k < 5 ∧ a + k < ts.length
    · obtain ⟨h5, hlt⟩ := hlt
      obtain ⟨b, o, rfl, hb, hc⟩ := HC.out (by omega)
      obtain ⟨d0, d1, d2⟩ := hc (a + k) hlt
      have hsz := HS.out ts[a + k] (List.getElem_mem hlt)
      have hsn := catL_snoc (ts.map Tok.text) a k (by simpa using hlt)
      rw [List.getElem_map] at hsn
      have hle : (catL (((ts.map Tok.text).drop a).take k)).length ≤ k * 20000 := by
        refine Nat.le_trans (catL_le _ (B := 20000) (fun t ht => ?_)) (Nat.mul_le_mul_right _ (List.length_take_le _ _))
        obtain ⟨t', h', rfl⟩ := List.mem_map.1 (List.mem_of_mem_drop (List.mem_of_mem_take ht))
        exact HS.out t' h'
      have HSN := Lib.hid hsn
      clear hsn hc
      generalize ts[a + k].text = x at hsz d2 HSN
      generalize catL (((ts.map Tok.text).drop a).take k) = L at hle HSN ⊢
      have hba : (ba L).size ≤ 100000 := by rw [ba_size]; omega
      have hi1 : ((a + k : Nat) : Int) < (a : Int) + 5 := by omega
      have hi2 : ((a + k : Nat) : Int) < (ts.length : Int) := by omega
      have hi3 : (a : Int) ≤ 20000 := by omega
      generalize hj : a + k = j at *
      go_wp2_with fail
      go_round
      case rel =>
        refine ⟨k + 1, by omega, by omega, by go_num, ?_⟩
        rw [HSN.out, ba_app, ← ba_of x]
        rfl
      case measure => simp [intOf]; omega
    · have hi3 : (a : Int) ≤ 20000 := by omega
      have e : ((ts.map Tok.text).drop a).take k = ((ts.map Tok.text).drop a).take 5 := by
        by_cases h5 : k = 5
        · rw [h5]
        · rw [List.take_of_length_le (by rw [List.length_drop, List.length_map]; omega), List.take_of_length_le (by rw [List.length_drop, List.length_map]; omega)]
      have E := Lib.hid e
      clear e
      have hi12 : ¬ (((a + k : Nat) : Int) < (a : Int) + 5) ∨ ¬ (((a + k : Nat) : Int) < (ts.length : Int)) := by omega
      generalize hj : a + k = j at *
      rcases hi12 with hi1 | hi1
      · go_wp2_with fail
        go_ret
        exact ⟨ret_s (by rw [E.out]), rfl⟩
      · by_cases hi0 : (j : Int) < (a : Int) + 5
        · go_wp2_with fail
          go_ret
          exact ⟨ret_s (by rw [E.out]), rfl⟩
        · go_wp2_with fail
          go_ret
          exact ⟨ret_s (by rw [E.out]), rfl⟩
end Go.Proofs.YtlpgkldialmofaaGreatDoor
