/- errors.As and errors.Is at a *api.Spot (after the guide's ToyasAs; printed by mkas.py). -/
import Derived.Test.YtjeldfipipkfiaaGreatDoorGReg
import Derived.LaidEql
import Derived.Stop.Asserts
import Derived.Test.YtjeldfipipkfiaaGreatDoorChkC
import Derived.Lib.IfaceEq
namespace Go.Proofs.YtjeldfipipkfiaaGreatDoor
open Go.RowKit Go.Extern.Stop Go.Stop Go.Extern
set_option linter.unusedSimpArgs false
set_option linter.unusedVariables false
end Go.Proofs.YtjeldfipipkfiaaGreatDoor
namespace Go.Proofs.YtjeldfipipkfiaaGreatDoor
open Go.RowKit Go.Extern.Stop Go.Stop Go.Extern
set_option linter.unusedSimpArgs false
set_option linter.unusedVariables false
abbrev cmpM : Array Value → Sem Value := ReflectliteType.method fun t => do Rtype.noPackHeld "Comparable" t; pure (.bool (← typeInfo t).comparable)
end Go.Proofs.YtjeldfipipkfiaaGreatDoor
namespace Go.Proofs.YtjeldfipipkfiaaGreatDoor
open Go.RowKit Go.Extern.Stop Go.Stop Go.Extern
set_option linter.unusedSimpArgs false
set_option linter.unusedVariables false
def HandleE (w : World) : Prop := w.cell? ⟨0, 0, none⟩ = some (.iface 207 (.agg #[.pointer (some ⟨5, 34, none⟩)]))
theorem HandleE.pos {w : World} (h : HandleE w) : 0 < w.heap.size := by
  rcases Nat.eq_zero_or_pos w.heap.size with h0 | h1
  · simp [HandleE, World.cell?, h0] at h
  · exact h1
theorem HandleE.under {w w' : World} (h : HandleE w) (hb : Below w.heap.size w w') : HandleE w' := by
  have := h.pos
  unfold HandleE
  rw [hb.cell (p := ⟨0, 0, none⟩) this]
  exact h
theorem HandleE.alloc {w : World} (h : HandleE w) (o : Obj) : HandleE (w.alloc o) := h.under ((Below.refl _ _).alloc (Nat.le_refl _) _)
theorem RL.likeC (a b : Int) (w : World) : (binOp .eql 34 (.iface 70 (.int .i64 a)) (.iface 70 (.int .i64 b))).run Tryz.prog w = .ok (.bool (a == b)) w :=
  Lib.run_eql_iface_int w a b Tryz.underlying34 (by kernel_rfl) Tryz.underlying70
theorem RL.nilC (a : Int) (w : World) : (binOp .eql 34 (.iface 70 (.int .i64 a)) .nilIface).run Tryz.prog w = .ok (.bool false) w := by kernel_rfl
/-! Code -/
set_option maxHeartbeats 4000000 in
theorem codeN_c (c : Int) (h1 : 1 ≤ c) (h12 : c ≤ 12) (w : World) : Calls Tryz.prog 34 #[.iface 70 (.int .i64 c)] w fun e w' => e = .returned (.int .i64 c) ∧ w' = w := by
  have l0 := RL.nilC c
  have lC := RL.likeC c
  go_enter Tryz.func34, Tryz.ntmps34
  go_wp2_with fail
  go_loop [3] (fun i => ∃ k : Nat, i = .int .i64 k ∧ 1 ≤ k ∧ (k : Int) ≤ c) (fun i => 12 - (intOf i).toNat)
  case atStart => exact ⟨1, rfl, Nat.le_refl _, h1⟩
  case round =>
    obtain ⟨k, rfl, hk1, hkc⟩ := hrel
    have hk12 : (k : Int) ≤ 12 := by omega
    by_cases e : (k : Int) = c
    · have he : (c == (k : Int)) = true := by rw [e]; exact beq_self_eq_true c
      have lk := lC k
      rw [he] at lk
      go_wp2_with fail
      go_ret
      first
        | exact ⟨rfl, rfl⟩
        | exact ⟨ret_i e, rfl⟩
    · have he : (c == (k : Int)) = false := by simpa using Ne.symm e
      have lk := lC k
      rw [he] at lk
      go_wp2_with fail
      exact ⟨⟨k + 1, by go_num, by omega, by omega⟩, by simp [intOf]; omega⟩
theorem codeNil_c (w : World) : Calls Tryz.prog 34 #[.nilIface] w fun e w' => e = .returned (.int .i64 0) ∧ w' = w := by
  go_enter Tryz.func34, Tryz.ntmps34
  go_wp2_with fail
  go_ret
  exact ⟨rfl, rfl⟩
def numE : Option (Int × Option Nat) → Int × Int
  | none => (0, -1)
  | some (c, none) => (c, -1)
  | some (c, some i) => (c, i)
end Go.Proofs.YtjeldfipipkfiaaGreatDoor
