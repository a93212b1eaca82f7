/- merlonref03.Same: are two rows of tokens the same? -/
import Derived.Test.YtbaoinofpiepmaaDoorLexT
import Derived.Laws.StructEq
import Derived.BigQuiet
namespace Go.Proofs.YtbaoinofpiepmaaDoor
open Go.RowKit
set_option linter.unusedSimpArgs false
set_option linter.unusedVariables false
theorem bytes_iff (x y : ByteArray) : x.toList = y.toList ↔ x = y := by
  rw [ByteArray.toList_eq, ByteArray.toList_eq]
  exact ⟨fun h => ByteArray.ext (Array.toList_inj.mp h), fun h => by rw [h]⟩
theorem tok_eq (a b a' b' : Int) (s s' : ByteArray) (w : World) : (Op.equalIn 10000 43 (.agg #[.int .i64 a, .int .i64 b, .string s]) (.agg #[.int .i64 a', .int .i64 b', .string s'])).run Tryd.prog w = .ok (a == a' && b == b' && decide (s = s')) w := by
  have u3 := Tryd.underlying3
  have a3 := Tryd.isAgg3
  have z3 := Tryd.sizeOf3
  have u9 := Tryd.underlying9
  have a9 := Tryd.isAgg9
  have z9 := Tryd.sizeOf9
  have hS : Tryd.prog.underlying 43 = some (.struct (Tryd.prog.fieldsOf 43)) := by kernel_rfl
  have hp : Tryd.prog.stoodInHeld 43 = false := by kernel_rfl
  rw [show (10000 : Nat) = 9999 + 1 from rfl, run_equalIn_agg w 9999 43 _ _ hS hp]
  simp only [Program.fieldsOf, Tryd.underlying43]
  go_simp
  by_cases h1 : a = a' <;> by_cases h2 : b = b' <;> by_cases h3 : s = s' <;> simp [h1, h2, h3, bytes_iff]
theorem tok_neq (a b a' b' : Int) (s s' : ByteArray) (w : World) : (binOp .neq 43 (.agg #[.int .i64 a, .int .i64 b, .string s]) (.agg #[.int .i64 a', .int .i64 b', .string s'])).run Tryd.prog w = .ok (.bool (!(a == a' && b == b' && decide (s = s')))) w := by
  rw [run_neq_struct, tok_eq]; rfl
theorem tok_eql (a b a' b' : Int) (s s' : ByteArray) (w : World) : (binOp .eql 43 (.agg #[.int .i64 a, .int .i64 b, .string s]) (.agg #[.int .i64 a', .int .i64 b', .string s'])).run Tryd.prog w = .ok (.bool (a == a' && b == b' && decide (s = s'))) w := by
  rw [run_eql_struct, tok_eq]; rfl
/-- a slice that reads as a row of tokens -/
def TokAt (w : World) (v : Value) (ts : List Tok) : Prop :=
  ∃ p cap, v = .slice p ts.length cap ∧ (0 < ts.length → ∃ b o, p = some ⟨b, o, none⟩ ∧ ∀ i (h : i < ts.length),
    w.cell? ⟨b, o + i * 3, none⟩ = some (.int .i64 (ts[i].kind : Nat)) ∧ w.cell? ⟨b, o + i * 3 + 1, none⟩ = some (.int .i64 (ts[i].at_ : Nat)) ∧ w.cell? ⟨b, o + i * 3 + 2, none⟩ = some (.string ts[i].text))
theorem flat_get : ∀ (ts : List Tok) (i : Nat) (h : i < ts.length) (j : Nat), j < 3 → (flatT ts)[i * 3 + j]? = ts[i].cells[j]?
  | [], i, h, _, _ => by simp at h
  | t :: ts, 0, _, j, hj => by
    simp only [flatT, List.flatMap_cons, Nat.zero_mul, Nat.zero_add, List.getElem_cons_zero]
    rw [List.getElem?_append_left (by simpa [Tok.cells] using hj)]
  | t :: ts, i + 1, h, j, hj => by
    have h' : i < ts.length := by simpa using h
    have ih := flat_get ts i h' j hj
    simp only [flatT, List.flatMap_cons, List.getElem_cons_succ] at ih ⊢
    rw [List.getElem?_append_right (by simp [Tok.cells]; omega), ← ih]
    congr 1
    simp [Tok.cells]; omega
theorem TokAt.own {w : World} {base : Nat} {v : Value} {ts : List Tok} (h : w.ownsRow base 43 3 v ts.length (flatT ts)) : TokAt w v ts := by
  obtain ⟨-, ⟨rfl, hn⟩ | ⟨g, cap, cur, rfl, hb, hh, hnc, hcm, hsz, htk⟩⟩ := h
  · exact ⟨none, 0, by rw [hn], fun h => by omega⟩
  · refine ⟨_, cap, rfl, fun _ => ⟨g, 0, rfl, fun i hi => ?_⟩⟩
    have get : ∀ j, j < 3 → w.cell? ⟨g, 0 + i * 3 + j, none⟩ = ts[i].cells[j]? := by
      intro j hj
      rw [← flat_get ts i hi j hj, ← htk, List.getElem?_take, if_pos (by omega)]
      simp [World.cell?, hh]
    exact ⟨get 0 (by decide), get 1 (by decide), get 2 (by decide)⟩
theorem cell_lt {w : World} {b i : Nat} {x : Value} (h : w.cell? ⟨b, i, none⟩ = some x) : b < w.heap.size := by
  rcases Nat.lt_or_ge b w.heap.size with hl | hl
  · exact hl
  · simp [World.cell?, Array.getElem?_eq_none hl] at h
theorem TokAt.under {w w' : World} {v : Value} {ts : List Tok} (h : TokAt w v ts) (hb : Below w.heap.size w w') : TokAt w' v ts := by
  obtain ⟨p, cap, rfl, h⟩ := h
  refine ⟨p, cap, rfl, fun h0 => ?_⟩
  obtain ⟨b, o, rfl, g⟩ := h h0
  refine ⟨b, o, rfl, fun i hi => ?_⟩
  obtain ⟨h1, h2, h3⟩ := g i hi
  have hlt : b < w.heap.size := by
    rcases Nat.lt_or_ge b w.heap.size with hl | hl
    · exact hl
    · simp [World.cell?, Array.getElem?_eq_none hl] at h1
  rw [hb.cell (p := ⟨b, _, none⟩) hlt, hb.cell (p := ⟨b, _, none⟩) hlt, hb.cell (p := ⟨b, _, none⟩) hlt]
  exact ⟨h1, h2, h3⟩
def Tok.eqB (t u : Tok) : Bool := ((t.kind : Int) == (u.kind : Int)) && ((t.at_ : Int) == (u.at_ : Int)) && decide (t.text = u.text)
theorem Tok.eqB_self (t : Tok) : t.eqB t = true := by simp [Tok.eqB]
theorem same_c (ts : List Tok) (v v2 : Value) (w : World) (h1 : TokAt w v ts) (h2 : TokAt w v2 ts) (hl : ts.length ≤ 20000) : Calls Tryd.prog 10 #[v, v2] w fun e w' => e = .returned (.bool true) ∧ Below w.heap.size w w' := by
  obtain ⟨p, cap, rfl, h1⟩ := h1
  obtain ⟨p2, cap2, rfl, h2⟩ := h2
  go_enter Tryd.func10, Tryd.ntmps10
  go_wp2
  go_loopw [5] (fun i wr => ∃ k : Nat, i = .int .i64 k ∧ k ≤ ts.length ∧ Below w.heap.size w wr) (fun i _ => ts.length - (intOf i).toNat)
  case atStart => exact ⟨0, rfl, Nat.zero_le _, Below.refl _ _⟩
  case round =>
    obtain ⟨k, rfl, hk, hbel⟩ := hrel
    by_cases hlt : k < ts.length
    · obtain ⟨b, o, rfl, g1⟩ := h1 (by omega)
      obtain ⟨b2, o2, rfl, g2⟩ := h2 (by omega)
      obtain ⟨c1, c2, c3⟩ := g1 k hlt
      obtain ⟨d1, d2, d3⟩ := g2 k hlt
      have l1 : b < w.heap.size := cell_lt c1
      have l2 : b2 < w.heap.size := cell_lt d1
      rw [← hbel.cell (p := ⟨b, _, none⟩) l1] at c1 c2 c3
      rw [← hbel.cell (p := ⟨b2, _, none⟩) l2] at d1 d2 d3
      have tn := tok_neq
      clear h1 h2 g1 g2
      have hltI : (k : Int) < (ts.length : Int) := by omega
      go_wp2
      go_quiet (fail)
      go_wp2
      exact ⟨⟨k + 1, by go_num, by omega, below_drewN hbel _⟩, by simp [intOf]; omega⟩
    · have hltI : ¬ (k : Int) < (ts.length : Int) := by omega
      go_wp2
      go_ret
      exact ⟨rfl, hbel⟩
end Go.Proofs.YtbaoinofpiepmaaDoor
