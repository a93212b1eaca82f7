/- sub.Sub at plain types; two boxes. -/
import Derived.Test.YtalpmjmifcofeaaPlain0
import Derived.Test.YtalpmjmifcofeaaBoundL
namespace Go.Proofs.Ytalpmjmifcofeaa
open Go.RowKit
set_option linter.unusedSimpArgs false
set_option linter.unusedVariables false
theorem sub_few {a b : Ty} (h : (FewB a && PlainB a) = false) (hf : FewB a = true) : SubB a b = false := by
  rw [hf, Bool.true_and] at h
  rw [SubB, h, Bool.false_and]
theorem sub_few' {a b : Ty} (h : (FewB b && PlainB b) = false) (hf : FewB b = true) : SubB a b = false := by
  rw [hf, Bool.true_and] at h
  rw [SubB, h, Bool.false_and, Bool.and_false]
theorem boxes2 (w : World) (c0 c1 : Array Value) (T : TypeId) : Blk ((w.alloc (.cells c0 T)).alloc (.cells c1 T)) w.heap.size c0 T ∧ Blk ((w.alloc (.cells c0 T)).alloc (.cells c1 T)) (w.heap.size + 1) c1 T ∧
    ((w.alloc (.cells c0 T)).alloc (.cells c1 T)).heap.size = w.heap.size + 2 ∧ Below w.heap.size w ((w.alloc (.cells c0 T)).alloc (.cells c1 T)) := by
  have e1 : (w.alloc (.cells c0 T)).heap.size = w.heap.size + 1 := by simp
  have b1 := Blk.new (w.alloc (.cells c0 T)) c1 T
  rw [e1] at b1
  exact ⟨(Blk.new w c0 T).alloc _, b1, by simp, ((Below.refl _ _).alloc (Nat.le_refl _) _).alloc (by simp) _⟩
theorem cells2 {W w' : World} {p q : Nat} {a0 a1 a2 a3 a4 a5 a6 b0 b1 b2 b3 b4 b5 b6 : Value} {T : TypeId} (ha : Blk W p #[a0, a1, a2, a3, a4, a5, a6] T) (hb : Blk W q #[b0, b1, b2, b3, b4, b5, b6] T) (h : Below W.heap.size W w') :
    w'.cell? ⟨p, 0, none⟩ = some a0 ∧ w'.cell? ⟨p, 1, none⟩ = some a1 ∧ w'.cell? ⟨p, 2, none⟩ = some a2 ∧ w'.cell? ⟨p, 3, none⟩ = some a3 ∧ w'.cell? ⟨p, 4, none⟩ = some a4 ∧ w'.cell? ⟨p, 5, none⟩ = some a5 ∧ w'.cell? ⟨p, 6, none⟩ = some a6 ∧ w'.cell? ⟨q, 0, none⟩ = some b0 ∧ w'.cell? ⟨q, 1, none⟩ = some b1 ∧ w'.cell? ⟨q, 2, none⟩ = some b2 ∧ w'.cell? ⟨q, 3, none⟩ = some b3 ∧ w'.cell? ⟨q, 4, none⟩ = some b4 ∧ w'.cell? ⟨q, 5, none⟩ = some b5 ∧ w'.cell? ⟨q, 6, none⟩ = some b6 ∧ Below W.heap.size W w' := by
  have x := ha.under h ha.lt
  have y := hb.under h hb.lt
  exact ⟨x.cell 0, x.cell 1, x.cell 2, x.cell 3, x.cell 4, x.cell 5, x.cell 6, y.cell 0, y.cell 1, y.cell 2, y.cell 3, y.cell 4, y.cell 5, y.cell 6, h⟩
theorem sub_plain (a b : Ty) (cs cs' : Array Value) (B : Nat) (w : World) (ha : TyC w B a cs) (hb : TyC w B b cs') (hB : B ≤ w.heap.size) (pa : PlainB a = true) (pb : PlainB b = true) (v : Bool) (hv : subF 32 a b = v) :
    Calls Try.prog 13 #[.agg cs, .agg cs'] w fun e w' => e = .returned (.bool v) ∧ Below w.heap.size w w' := by
  subst hv
  have h := Sub_c a b cs cs' B w ha hb hB
  rw [show SubB a b = subF 32 a b by rw [SubB, pa, pb]; simp] at h
  exact h
end Go.Proofs.Ytalpmjmifcofeaa
