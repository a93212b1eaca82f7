/- errors.Is at a *api.Spot that wraps a Code, and merlonlaw00.Is. -/
import Derived.Test.YtlpgkldialmofaaGreatDoorAsC
namespace Go.Proofs.YtlpgkldialmofaaGreatDoor
open Go.RowKit Go.Extern.Stop Go.Stop Go.Extern
set_option linter.unusedSimpArgs false
set_option linter.unusedVariables false
abbrev cmpM : Array Value → Sem Value := ReflectliteType.method fun t => do Rtype.noPackHeld "Comparable" t; pure (.bool (← typeInfo t).comparable)
theorem RL.typeOfCode (v : Value) (w : World) : (ReflectliteType.typeOf #[.iface 32 v]).run Tryz.prog w = .ok (.iface 125 (.agg #[.pointer (some ⟨4, 32, none⟩)])) w := by kernel_rfl
theorem RL.methodComparable (h : Value) (w : World) : (Go.method 249 125 (.agg #[h]) "Comparable").run Tryz.prog w = .ok (124, .agg #[h]) w := by kernel_rfl
theorem RL.comparableCode (w : World) : (cmpM #[.agg #[.pointer (some ⟨4, 32, none⟩)]]).run Tryz.prog w = .ok (.bool true) w := by kernel_rfl
theorem RL.noIs (v : Value) (xT : TypeId) (w : World) : (Instr.typeAssert (.iface 69 v) xT 137 true).run Tryz.prog w = .ok (.tuple #[.nilIface, .bool false]) w := run_typeAssert_lacksB Tryz.underlying137 (by kernel_rfl) (by kernel_rfl) v xT w
theorem RL.hasUnwrap (v : Value) (xT : TypeId) (w : World) : (Instr.typeAssert (.iface 69 v) xT 132 true).run Tryz.prog w = .ok (.tuple #[.iface 69 v, .bool true]) w := run_typeAssert_hasB Tryz.underlying132 (by kernel_rfl) v xT w
theorem RL.methodUnwrap (b : Addr) (w : World) : (Go.method 249 69 (.pointer (some b)) "Unwrap").run Tryz.prog w = .ok (117, .pointer (some b)) w := by kernel_rfl
theorem RL.unlike (v v2 : Value) (w : World) : (binOp .eql 29 (.iface 69 v) (.iface 32 v2)).run Tryz.prog w = .ok (.bool false) w := run_eql_iface_types _ _ _ _ Tryz.underlying29 (by decide) w
theorem RL.like (w : World) : (binOp .eql 29 (.iface 32 (.int .i64 2)) (.iface 32 (.int .i64 2))).run Tryz.prog w = .ok (.bool true) w := by kernel_rfl
theorem unwrap_c (b : Nat) (w : World) (at_ : Value) (c : Value) (h : Blk w b #[at_, c] 71) : Calls Tryz.prog 117 #[.pointer (some ⟨b, 0, none⟩)] w fun e w' => e = .returned c ∧ w' = w := by
  have h1 := h.cell 1
  simp at h1
  go_enter Tryz.func117, Tryz.ntmps117
  go_wp2
  go_ret
  exact ⟨rfl, rfl⟩
set_option maxRecDepth 100000 in
set_option maxHeartbeats 4000000 in
theorem is_spot (b : Nat) (at_ : Value) (w : World) (h : Blk w b #[at_, .iface 32 (.int .i64 2)] 71) :
    Calls Tryz.prog 45 #[.iface 69 (.pointer (some ⟨b, 0, none⟩)), .iface 32 (.int .i64 2)] w fun e w' => e = .returned (.bool true) ∧ w' = w := by
  have hC := @run_callFunc_extern Tryz.prog 124 _ cmpM Tryz.func124 (by kernel_rfl) (by kernel_rfl) (by kernel_rfl) (by kernel_rfl)
  have hT := @run_callFunc_extern Tryz.prog 70 _ ReflectliteType.typeOf Tryz.func70 (by kernel_rfl) (by kernel_rfl) (by kernel_rfl) (by kernel_rfl)
  have tO := RL.typeOfCode
  have mC := RL.methodComparable
  have cC := RL.comparableCode
  have nI := RL.noIs
  have hU := RL.hasUnwrap
  have mU := RL.methodUnwrap
  have uL := RL.unlike
  have lL := RL.like
  go_enter Tryz.func45, Tryz.ntmps45
  go_wp2
  refine wp_loop_rounds 2 ?_
  rw [rounds_succ]
  go_wp2_with (go_at_call 117; refine (unwrap_c b w at_ _ h).mono ?_; rintro e w' ⟨rfl, rfl⟩)
  rw [rounds_succ]
  go_wp2
  go_ret
  exact ⟨rfl, rfl⟩
theorem as_spot (b : Nat) (w : World) (hg : w.cell? ⟨0, 0, none⟩ = some (.iface 125 (.agg #[.pointer (some ⟨4, 29, none⟩)]))) :
    Calls Tryz.prog 44 #[.iface 69 (.pointer (some ⟨b, 0, none⟩)), .iface 84 (.pointer (some ⟨w.heap.size, 0, none⟩))] (w.alloc (.cells #[.pointer none] 69))
      fun e w' => e = .returned (.bool true) ∧ Below w.heap.size w w' ∧ w'.cell? ⟨w.heap.size, 0, none⟩ = some (.pointer (some ⟨b, 0, none⟩)) := by
  have hlt : 0 < w.heap.size := by
    rcases Nat.eq_zero_or_pos w.heap.size with h0 | h
    · simp [World.cell?, h0] at hg
    · exact h
  refine (as_hit ⟨b, 0, none⟩ ⟨w.heap.size, 0, none⟩ (.pointer none) _ ?_ ?_ ?_).mono ?_
  · rw [World.cell?_alloc_lt _ _ ⟨0, 0, none⟩ hlt]; exact hg
  · simp
  · simp
  · rintro e w' ⟨rfl, rfl⟩
    refine ⟨rfl, ?_, ?_⟩
    · refine Below.setCell (p := ⟨w.heap.size, 0, none⟩) ?_ (Nat.le_refl w.heap.size) _
      exact (((((Below.refl _ w).alloc (Nat.le_refl _) _).alloc (by simp) _).alloc (by simp; omega) _).alloc (by simp; omega) _).alloc (by simp; omega) _
    · refine World.cell?_setCell_same (u := .pointer none) _ (a := ⟨w.heap.size, 0, none⟩) (v := .pointer (some ⟨b, 0, none⟩)) ?_
      rw [World.cell?_alloc_lt _ _ ⟨w.heap.size, 0, none⟩ (by simp; omega), World.cell?_alloc_lt _ _ ⟨w.heap.size, 0, none⟩ (by simp; omega), World.cell?_alloc_lt _ _ ⟨w.heap.size, 0, none⟩ (by simp; omega), World.cell?_alloc_lt _ _ ⟨w.heap.size, 0, none⟩ (by simp)]
      simp
theorem RL.info50 : ((Tryz.prog).info? 69).map (·.comparable) = some true := by kernel_rfl
theorem RL.info52 : ((Tryz.prog).info? 71).isSome = true := by kernel_rfl
theorem RL.spotEq (a : Addr) (w : World) : (binOp .neq 29 (.iface 69 (.pointer (some a))) (.iface 69 (.pointer (some a)))).run Tryz.prog w = .ok (.bool false) w := by
  obtain ⟨i, hi, hc⟩ := Option.map_eq_some_iff.1 RL.info50
  obtain ⟨j, hj⟩ := Option.isSome_iff_exists.1 RL.info52
  simp only [binOp]
  simp [Op.equal, Op.maxDepth, run_equalIn_iface_ptr_same w 9998 a Tryz.underlying29 Tryz.underlying69 hi hc hj]
set_option maxRecDepth 100000 in
set_option maxHeartbeats 4000000 in
theorem is_c (b : Nat) (k : Int) (w : World) (hg : w.cell? ⟨0, 0, none⟩ = some (.iface 125 (.agg #[.pointer (some ⟨4, 29, none⟩)]))) (h : Blk w b #[.int .i64 k, .iface 32 (.int .i64 2)] 71) :
    Calls Tryz.prog 23 #[.iface 69 (.pointer (some ⟨b, 0, none⟩)), .int .i64 k, .int .i64 2] w fun e w' => e = .returned (.bool true) ∧ Below w.heap.size w w' := by
  have sE := RL.spotEq
  have lL := RL.like
  go_enter Tryz.func23, Tryz.ntmps23
  go_wp2_with (go_at_call 44; refine (as_spot b w hg).mono ?_; rintro e w' ⟨rfl, hb, hc⟩)
  have h2 := h.under hb h.lt
  have h3 := h2.cell 0
  have h4 := h2.cell 1
  simp at h3 h4
  go_wp2_with (go_at_call 45; refine (is_spot b _ _ h2).mono ?_; rintro e w' ⟨rfl, rfl⟩)
  go_ret
  exact ⟨rfl, hb⟩
end Go.Proofs.YtlpgkldialmofaaGreatDoor
