/- Small laws on allowed types (for the seats without package sub). -/
import Derived.Test.YtalpmjmifcofeaaDoorRefMay
namespace Go.Proofs.YtalpmjmifcofeaaDoor
open Go.RowKit
set_option linter.unusedSimpArgs false
set_option linter.unusedVariables false
theorem deepL_mem : ∀ {l : List Ty} {s : Ty}, s ∈ l → deepT s ≤ deepL l
  | [], _, h => by cases h
  | x :: l, s, h => by
    rw [deepL]
    rcases List.mem_cons.1 h with rfl | h
    · omega
    · have := deepL_mem h; omega
theorem deep_child {t s : Ty} (h : s ∈ t.subs) : deepT s < deepT t := by
  have := deepL_mem h
  rw [deepT_eq t]; omega
theorem allL_mem : ∀ {l : List Ty} {s : Ty}, s ∈ l → allL l = true → allT s = true
  | [], _, h, _ => by cases h
  | x :: l, s, h, ha => by
    rw [allL, Bool.and_eq_true] at ha
    rcases List.mem_cons.1 h with rfl | h
    · exact ha.1
    · exact allL_mem h ha.2
theorem may_child {t s : Ty} (h : mayT t = true) (hs : s ∈ t.subs) : mayT s = true := by
  rw [may_is, mayR, allT_eq] at h ⊢
  simp only [Bool.and_eq_true, decide_eq_true_eq] at h ⊢
  obtain ⟨⟨⟨h1, h2⟩, h3⟩, h4⟩ := h
  have h5 := allL_mem hs h2
  rw [allT_eq, Bool.and_eq_true] at h5
  have h6 := manyL_mem hs
  have h7 := deep_child hs
  rw [manyT_eq] at h3
  exact ⟨⟨h5, by omega⟩, by omega⟩
theorem may_shape {t : Ty} (h : mayT t = true) : shapeB t = true := by
  rw [may_is, mayR, allT_eq] at h
  simp only [Bool.and_eq_true] at h
  exact h.1.1.1
theorem may_small {t : Ty} (h : mayT t = true) : t.subs.length ≤ 20 := by
  have := may_shape h
  simp only [shapeB, Bool.and_eq_true, decide_eq_true_eq] at this
  omega
theorem may_kind {t : Ty} (h : mayT t = true) : kindB t = true := by
  have := may_shape h
  simp only [shapeB, Bool.and_eq_true, decide_eq_true_eq] at this
  exact this.2
end Go.Proofs.YtalpmjmifcofeaaDoor
