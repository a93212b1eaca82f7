/- The contract of kind.Print: the text of an allowed type; of any other one the error. The premise: strconv's table is as laid. -/
import Derived.Test.YtalpmjmifcofeaaDoorTextC
namespace Go.Proofs.YtalpmjmifcofeaaDoor
open Go.RowKit
set_option linter.unusedSimpArgs false
set_option linter.unusedVariables false
def printS (t : Ty) : ByteArray := if mayT t = true then ba (tx t) else { data := #[] }
def printE (t : Ty) : Value := if mayT t = true then .nilIface else .iface 33 (.int .i64 1)
def zeroTy : Ty := .mk 0 ⟨#[]⟩ 0 ⟨#[]⟩ ⟨#[]⟩ [] []
theorem zero_fits : Fits zeroTy := ⟨by decide, by decide, by decide, by decide, by decide, by decide, (by intro s h; cases h), by decide⟩
theorem zero_tyc (w : World) (B : Nat) : TyC w B zeroTy #[.int .i64 0, .string ⟨#[]⟩, .int .i64 0, .string ⟨#[]⟩, .string ⟨#[]⟩, .slice none 0 0, .slice none 0 0] :=
  .mk zeroTy none 0 none 0 (fun _ => #[]) zero_fits (.inl rfl) (.inl rfl) (Nat.le_refl _) (Nat.le_refl _) (fun i h => absurd h (by show ¬ i < 0; omega))
theorem eq_err (w : World) : (binOp BinOp.eql 29 (.iface 33 (.int .i64 1)) (.iface 33 (.int .i64 1))).run Tryd.prog w = .ok (.bool true) w := by kernel_rfl
theorem eq_nilerr (w : World) : (binOp BinOp.eql 29 .nilIface (.iface 33 (.int .i64 1))).run Tryd.prog w = .ok (.bool false) w := by kernel_rfl
theorem eq_errnil (w : World) : (binOp BinOp.eql 29 (.iface 33 (.int .i64 1)) .nilIface).run Tryd.prog w = .ok (.bool false) w := by kernel_rfl
theorem neq_errnil (w : World) : (binOp BinOp.neq 29 (.iface 33 (.int .i64 1)) .nilIface).run Tryd.prog w = .ok (.bool true) w := by kernel_rfl
set_option maxRecDepth 100000 in
set_option maxHeartbeats 4000000 in
theorem print_c (t : Ty) (cs : Array Value) (B : Nat) (w : World) (ht : TyC w B t cs) (hB : B ≤ w.heap.size) (htab : TabW w) :
    Calls Tryd.prog 9 #[.agg cs] w fun e w' => e = .returned (.tuple #[.string (printS t), printE t]) ∧ Below w.heap.size w w' := by
  obtain ⟨na, nc, sa, sc, f, rfl, -⟩ := ht.inv
  obtain ⟨S, hS⟩ : ∃ S, printS t = S := ⟨_, rfl⟩
  obtain ⟨E, hE⟩ : ∃ E, printE t = E := ⟨_, rfl⟩
  have HS := Lib.hid hS
  have HE := Lib.hid hE
  rw [hS, hE]
  have HT := Lib.hid ht
  have HTB := Lib.hid htab
  clear ht htab hS hE
  go_enter Tryd.func9, Tryd.ntmps9
  simp only [tyCells]
  go_wp2_with fail
  refine (May_c t _ B _ (HT.out.alloc hB _) (by simp; omega)).mono ?_
  rintro e w1 ⟨rfl, hb1⟩
  have x := (Blk.new w #[.int .i64 t.kind, .string t.pkg, .int .i64 t.major, .string t.mod, .string t.name, .slice na t.names.length nc, .slice sa t.subs.length sc] 25).under hb1 (by simp)
  have hbw : Below w.heap.size w w1 := ((Below.refl _ w).alloc (Nat.le_refl _) _).trans (hb1.mono (by simp))
  have a0 := x.cell 0
  have a1 := x.cell 1
  have a2 := x.cell 2
  have a3 := x.cell 3
  have a4 := x.cell 4
  have a5 := x.cell 5
  have a6 := x.cell 6
  simp at a0 a1 a2 a3 a4 a5 a6
  have hsz := hbw.size
  have HBW := Lib.hid hbw
  clear x hb1 hbw
  cases hm : mayT t
  · have es : S = { data := #[] } := by rw [← HS.out, printS, hm]; rfl
    have ee : E = .iface 33 (.int .i64 1) := by rw [← HE.out, printE, hm]; rfl
    subst es ee
    go_wp2
    refine bodyPost_ret (by simp [results, Tryd.results9, go_sem]; try rfl) rfl ?_
    exact ⟨rfl, HBW.out⟩
  · go_wp2_with fail
    refine (text_c t hm _ B w1 (HT.out.under (HBW.out.mono hB)) (by omega) (HTB.out.below HBW.out)).mono ?_
    rintro e w2 ⟨rfl, hb2⟩
    have es : S = ba (tx t) := by rw [← HS.out, printS, hm]; rfl
    have ee : E = .nilIface := by rw [← HE.out, printE, hm]; rfl
    subst es ee
    go_wp2
    refine bodyPost_ret (by simp [results, Tryd.results9, go_sem]; try rfl) rfl ?_
    exact ⟨rfl, acc0 HBW.out hsz hb2⟩
end Go.Proofs.YtalpmjmifcofeaaDoor
