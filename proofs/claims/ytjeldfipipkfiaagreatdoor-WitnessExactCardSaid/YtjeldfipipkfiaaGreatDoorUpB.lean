/- merlonlaw12.up returns true. -/
import Derived.Test.YtjeldfipipkfiaaGreatDoorGOf
namespace Go.Proofs.YtjeldfipipkfiaaGreatDoor
open Go.RowKit
set_option linter.unusedSimpArgs false
set_option linter.unusedVariables false
def bT : Ty := .mk 1 { data := #[] } 0 { data := #[] } { data := #[] } [] []
def bF : Nm := ⟨{ data := #[102] }, bT⟩
def bG : Nm := ⟨{ data := #[103] }, bT⟩
def bA : List If := [⟨{ data := #[112] }, 1, { data := #[109] }, [], [bF]⟩]
def bB : List If := [⟨{ data := #[112] }, 1, { data := #[109] }, [], [bF, bG]⟩]
def bZ : List If := [⟨{ data := #[] }, 0, { data := #[] }, [], []⟩]
theorem few_a : bA.all fewX = true := by decide +kernel
theorem un_0 : unionN [] [] = [] := rise_eq (unionN_rise _ _) (by decide +kernel) fun s => by rw [unionN_mem]; simp
theorem eq_errnil (w : World) : (binOp BinOp.eql 34 (.iface 70 (.int .i64 1)) .nilIface).run Tryz.prog w = .ok (.bool false) w := by kernel_rfl
theorem neq_errnil (w : World) : (binOp BinOp.neq 34 (.iface 70 (.int .i64 1)) .nilIface).run Tryz.prog w = .ok (.bool true) w := by kernel_rfl
theorem bT_c (w : World) (B : Nat) : TyC w B bT (tyCells bT none 0 none 0) :=
  .mk bT none 0 none 0 (fun _ => #[]) ⟨by decide, by decide, by decide, by decide, by decide, by decide, (by intro s h; cases h), by decide⟩ (.inl rfl) (.inl rfl) (Nat.le_refl _) (Nat.le_refl _) (fun i hi => absurd hi (by simp [bT, Ty.subs]))
theorem bN_c (w : World) (B : Nat) (n : Nm) (h : n.name.size ≤ maxLen) (ht : n.ty = bT) : NmC w B n (nmCells n none 0 none 0) := ⟨h, none, 0, none, 0, rfl, by rw [ht]; exact bT_c w B⟩
theorem rows_f {w : World} {b B : Nat} (h : Blk w b #[.string { data := #[102] }, .int .i64 1, .string { data := #[] }, .int .i64 0, .string { data := #[] }, .string { data := #[] }, .slice none 0 0, .slice none 0 0] 62) (hb : b < B) : NmsAt w B (some ⟨b, 0, none⟩) [bF] := by
  refine ⟨fun _ => nmCells bF none 0 none 0, .inr ⟨b, 0, rfl, hb, fun i hi j hj => ?_⟩, fun i hi => ?_⟩
  · obtain rfl : i = 0 := by simp at hi; exact hi
    rw [h.cell]
    have hj : j < 8 := hj
    match j, hj with
    | 0, _ | 1, _ | 2, _ | 3, _ | 4, _ | 5, _ | 6, _ | 7, _ => rfl
  · obtain rfl : i = 0 := by simp at hi; exact hi
    exact bN_c w B bF (by decide) rfl
theorem row_if {w : World} {b B : Nat} {x : If} {ta : Option Addr} {tc : Nat} {va : Option Addr} {vc : Nat} (h : Blk w b (ifCells x ta tc va vc) 51) (hb : b < B) (hx : IfC w B x (ifCells x ta tc va vc)) : IfsAt w B (some ⟨b, 0, none⟩) [x] := by
  refine ⟨fun _ => ifCells x ta tc va vc, .inr ⟨b, 0, rfl, hb, fun i hi j hj => ?_⟩, fun i hi => ?_⟩
  · obtain rfl : i = 0 := by simp at hi; exact hi
    rw [h.cell]
    simp
  · obtain rfl : i = 0 := by simp at hi; exact hi
    exact hx
end Go.Proofs.YtjeldfipipkfiaaGreatDoor
