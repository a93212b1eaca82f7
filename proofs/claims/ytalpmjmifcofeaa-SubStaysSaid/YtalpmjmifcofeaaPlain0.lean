/- The laws' own test: small enough, allowed, plain. -/
import Derived.Test.YtalpmjmifcofeaaSubSub
import Derived.Test.YtalpmjmifcofeaaMemM
namespace Go.Proofs.Ytalpmjmifcofeaa
open Go.RowKit
set_option linter.unusedSimpArgs false
set_option linter.unusedVariables false
set_option maxRecDepth 100000 in
set_option maxHeartbeats 4000000 in
theorem plain0_c (t : Ty) (cs : Array Value) (B : Nat) (w : World) (ht : TyC w B t cs) (hB : B ≤ w.heap.size) :
    Calls Try.prog 12 #[.agg cs] w fun e w' => e = .returned (.bool (FewB t && PlainB t)) ∧ Below w.heap.size w w' := by
  obtain ⟨na, nc, sa, sc, f, rfl, -⟩ := ht.inv
  have HT := Lib.hid ht
  clear ht
  go_enter Try.func12, Try.ntmps12
  simp only [tyCells]
  go_wp2_with fail
  have hacc : Below w.heap.size w (w.alloc (.cells #[.int .i64 t.kind, .string t.pkg, .int .i64 t.major, .string t.mod, .string t.name, .slice na t.names.length nc, .slice sa t.subs.length sc] 25)) := (Below.refl _ _).alloc (Nat.le_refl _) _
  have x := Blk.new w #[.int .i64 t.kind, .string t.pkg, .int .i64 t.major, .string t.mod, .string t.name, .slice na t.names.length nc, .slice sa t.subs.length sc] 25
  have hT := HT.out.alloc hB (.cells #[.int .i64 t.kind, .string t.pkg, .int .i64 t.major, .string t.mod, .string t.name, .slice na t.names.length nc, .slice sa t.subs.length sc] 25)
  simp only [tyCells] at hT
  generalize (w.alloc (.cells #[.int .i64 t.kind, .string t.pkg, .int .i64 t.major, .string t.mod, .string t.name, .slice na t.names.length nc, .slice sa t.subs.length sc] 25)) = W at hacc x hT ⊢
  have HT1 := Lib.hid hT
  have X := Lib.hid x
  have HA := Lib.hid hacc
  have hsz := hacc.size
  have hBW : B ≤ W.heap.size := Nat.le_trans hB hsz
  clear hacc x
  refine (Few_c t _ B W hT hBW).mono ?_
  rintro e w1 ⟨rfl, hb1⟩
  have x1 := X.out.under hb1 X.out.lt
  have c0 := x1.cell 0
  have c1 := x1.cell 1
  have c2 := x1.cell 2
  have c3 := x1.cell 3
  have c4 := x1.cell 4
  have c5 := x1.cell 5
  have c6 := x1.cell 6
  simp at c0 c1 c2 c3 c4 c5 c6
  have X1 := Lib.hid x1
  have B1 := Lib.hid hb1
  have s1 := hb1.size
  clear hT x1 hb1
  cases hf : FewB t
  · have HF := Lib.hid hf
    clear hf
    go_wp2_with fail
    go_ret
    exact ⟨ret_b (by rw [HF.out]; rfl), HA.out.trans (B1.out.mono hsz)⟩
  · have HF := Lib.hid hf
    clear hf
    go_wp2_with fail
    refine (rMay_c t _ B w1 (HT1.out.under (B1.out.mono hBW)) (by omega) (by have := few_many t HF.out; omega)).mono ?_
    rintro e w2 ⟨rfl, hb2⟩
    have x2 := X1.out.under hb2 X1.out.lt
    clear c0 c1 c2 c3 c4 c5 c6
    have c0 := x2.cell 0
    have c1 := x2.cell 1
    have c2 := x2.cell 2
    have c3 := x2.cell 3
    have c4 := x2.cell 4
    have c5 := x2.cell 5
    have c6 := x2.cell 6
    simp at c0 c1 c2 c3 c4 c5 c6
    have B2 := Lib.hid hb2
    have s2 := hb2.size
    clear x2 hb2
    cases hm : mayT t
    · have HM := Lib.hid hm
      clear hm
      go_wp2_with fail
      go_ret
      refine ⟨ret_b ?_, (HA.out.trans (B1.out.mono hsz)).trans (B2.out.mono (by omega))⟩
      rw [PlainB, HM.out, HF.out]
      rfl
    · have HM := Lib.hid hm
      clear hm
      go_wp2_with fail
      refine (rPlain_c t _ B w2 ((HT1.out.under (B1.out.mono hBW)).under (B2.out.mono (by omega))) (by omega)).mono ?_
      rintro e w3 ⟨rfl, hb3⟩
      have B3 := Lib.hid hb3
      clear hb3 c0 c1 c2 c3 c4 c5 c6
      go_wp2_with fail
      go_ret
      refine ⟨ret_b ?_, ((HA.out.trans (B1.out.mono hsz)).trans (B2.out.mono (by omega))).trans (B3.out.mono (by omega))⟩
      rw [PlainB, HM.out, HF.out]
      rfl
end Go.Proofs.Ytalpmjmifcofeaa
