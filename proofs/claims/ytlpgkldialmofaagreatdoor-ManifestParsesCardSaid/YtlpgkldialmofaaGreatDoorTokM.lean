/- A row of tokens in memory (cut out of SameT). -/
import Derived.Test.YtlpgkldialmofaaGreatDoorLexT
namespace Go.Proofs.YtlpgkldialmofaaGreatDoor
open Go.RowKit
set_option linter.unusedSimpArgs false
set_option linter.unusedVariables false
/-- a slice that reads as a row of tokens -/
def TokAt (w : World) (v : Value) (ts : List Tok) : Prop :=
  ∃ p cap, v = .slice p ts.length cap ∧ (0 < ts.length → ∃ b o, p = some ⟨b, o, none⟩ ∧ ∀ i (h : i < ts.length),
    w.cell? ⟨b, o + i * 3, none⟩ = some (.int .i64 (ts[i].kind : Nat)) ∧ w.cell? ⟨b, o + i * 3 + 1, none⟩ = some (.int .i64 (ts[i].at_ : Nat)) ∧ w.cell? ⟨b, o + i * 3 + 2, none⟩ = some (.string ts[i].text))
theorem flat_get : ∀ (ts : List Tok) (i : Nat) (h : i < ts.length) (j : Nat), j < 3 → (flatT ts)[i * 3 + j]? = ts[i].cells[j]?
  | [], i, h, _, _ => by simp at h
  | t :: ts, 0, _, j, hj => by
    simp only [flatT, List.flatMap_cons, Nat.zero_mul, Nat.zero_add, List.getElem_cons_zero]
    rw [List.getElem?_append_left (by simpa [Tok.cells] using hj)]
  | t :: ts, i + 1, h, j, hj => by
    have h' : i < ts.length := by simpa using h
    have ih := flat_get ts i h' j hj
    simp only [flatT, List.flatMap_cons, List.getElem_cons_succ] at ih ⊢
    rw [List.getElem?_append_right (by simp [Tok.cells]; omega), ← ih]
    congr 1
    simp [Tok.cells]; omega
theorem TokAt.own {w : World} {base : Nat} {v : Value} {ts : List Tok} (h : w.ownsRow base 48 3 v ts.length (flatT ts)) : TokAt w v ts := by
  obtain ⟨-, ⟨rfl, hn⟩ | ⟨g, cap, cur, rfl, hb, hh, hnc, hcm, hsz, htk⟩⟩ := h
  · exact ⟨none, 0, by rw [hn], fun h => by omega⟩
  · refine ⟨_, cap, rfl, fun _ => ⟨g, 0, rfl, fun i hi => ?_⟩⟩
    have get : ∀ j, j < 3 → w.cell? ⟨g, 0 + i * 3 + j, none⟩ = ts[i].cells[j]? := by
      intro j hj
      rw [← flat_get ts i hi j hj, ← htk, List.getElem?_take, if_pos (by omega)]
      simp [World.cell?, hh]
    exact ⟨get 0 (by decide), get 1 (by decide), get 2 (by decide)⟩
theorem cell_lt {w : World} {b i : Nat} {x : Value} (h : w.cell? ⟨b, i, none⟩ = some x) : b < w.heap.size := by
  rcases Nat.lt_or_ge b w.heap.size with hl | hl
  · exact hl
  · simp [World.cell?, Array.getElem?_eq_none hl] at h
theorem TokAt.under {w w' : World} {v : Value} {ts : List Tok} (h : TokAt w v ts) (hb : Below w.heap.size w w') : TokAt w' v ts := by
  obtain ⟨p, cap, rfl, h⟩ := h
  refine ⟨p, cap, rfl, fun h0 => ?_⟩
  obtain ⟨b, o, rfl, g⟩ := h h0
  refine ⟨b, o, rfl, fun i hi => ?_⟩
  obtain ⟨h1, h2, h3⟩ := g i hi
  have hlt : b < w.heap.size := by
    rcases Nat.lt_or_ge b w.heap.size with hl | hl
    · exact hl
    · simp [World.cell?, Array.getElem?_eq_none hl] at h1
  rw [hb.cell (p := ⟨b, _, none⟩) hlt, hb.cell (p := ⟨b, _, none⟩) hlt, hb.cell (p := ⟨b, _, none⟩) hlt]
  exact ⟨h1, h2, h3⟩
end Go.Proofs.YtlpgkldialmofaaGreatDoor
