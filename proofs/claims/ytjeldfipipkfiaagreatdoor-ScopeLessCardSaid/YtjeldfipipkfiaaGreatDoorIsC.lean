/- errors.Is at a *api.Spot that wraps a Code, and merlonlaw00.Is. -/
import Derived.Test.YtjeldfipipkfiaaGreatDoorAsC
namespace Go.Proofs.YtjeldfipipkfiaaGreatDoor
open Go.RowKit Go.Extern.Stop Go.Stop Go.Extern
set_option linter.unusedSimpArgs false
set_option linter.unusedVariables false
abbrev cmpM : Array Value → Sem Value := ReflectliteType.method fun t => do Rtype.noPackHeld "Comparable" t; pure (.bool (← typeInfo t).comparable)
theorem RL.typeOfCode (v : Value) (w : World) : (ReflectliteType.typeOf #[.iface 70 v]).run Tryz.prog w = .ok (.iface 207 (.agg #[.pointer (some ⟨5, 70, none⟩)])) w := by kernel_rfl
theorem RL.methodComparable (h : Value) (w : World) : (Go.method 404 207 (.agg #[h]) "Comparable").run Tryz.prog w = .ok (277, .agg #[h]) w := by kernel_rfl
theorem RL.comparableCode (w : World) : (cmpM #[.agg #[.pointer (some ⟨5, 70, none⟩)]]).run Tryz.prog w = .ok (.bool true) w := by kernel_rfl
theorem RL.noIs (v : Value) (xT : TypeId) (w : World) : (Instr.typeAssert (.iface 93 v) xT 237 true).run Tryz.prog w = .ok (.tuple #[.nilIface, .bool false]) w := run_typeAssert_lacksB Tryz.underlying237 (by kernel_rfl) (by kernel_rfl) v xT w
theorem RL.hasUnwrap (v : Value) (xT : TypeId) (w : World) : (Instr.typeAssert (.iface 93 v) xT 214 true).run Tryz.prog w = .ok (.tuple #[.iface 93 v, .bool true]) w := run_typeAssert_hasB Tryz.underlying214 (by kernel_rfl) v xT w
theorem RL.methodUnwrap (b : Addr) (w : World) : (Go.method 404 93 (.pointer (some b)) "Unwrap").run Tryz.prog w = .ok (270, .pointer (some b)) w := by kernel_rfl
theorem RL.unlike (v v2 : Value) (w : World) : (binOp .eql 34 (.iface 93 v) (.iface 70 v2)).run Tryz.prog w = .ok (.bool false) w := run_eql_iface_types _ _ _ _ Tryz.underlying34 (by decide) w
theorem RL.like (w : World) : (binOp .eql 34 (.iface 70 (.int .i64 2)) (.iface 70 (.int .i64 2))).run Tryz.prog w = .ok (.bool true) w := by kernel_rfl
theorem unwrap_c (b : Nat) (w : World) (at_ : Value) (c : Value) (h : Blk w b #[at_, c] 95) : Calls Tryz.prog 270 #[.pointer (some ⟨b, 0, none⟩)] w fun e w' => e = .returned c ∧ w' = w := by
  have h1 := h.cell 1
  simp at h1
  go_enter Tryz.func270, Tryz.ntmps270
  go_wp2
  go_ret
  exact ⟨rfl, rfl⟩
set_option maxRecDepth 100000 in
set_option maxHeartbeats 4000000 in
theorem is_spot (b : Nat) (at_ : Value) (w : World) (h : Blk w b #[at_, .iface 70 (.int .i64 2)] 95) :
    Calls Tryz.prog 94 #[.iface 93 (.pointer (some ⟨b, 0, none⟩)), .iface 70 (.int .i64 2)] w fun e w' => e = .returned (.bool true) ∧ w' = w := by
  have hC := @run_callFunc_extern Tryz.prog 277 _ cmpM Tryz.func277 (by kernel_rfl) (by kernel_rfl) (by kernel_rfl) (by kernel_rfl)
  have hT := @run_callFunc_extern Tryz.prog 158 _ ReflectliteType.typeOf Tryz.func158 (by kernel_rfl) (by kernel_rfl) (by kernel_rfl) (by kernel_rfl)
  have tO := RL.typeOfCode
  have mC := RL.methodComparable
  have cC := RL.comparableCode
  have nI := RL.noIs
  have hU := RL.hasUnwrap
  have mU := RL.methodUnwrap
  have uL := RL.unlike
  have lL := RL.like
  go_enter Tryz.func94, Tryz.ntmps94
  go_wp2
  refine wp_loop_rounds 2 ?_
  rw [rounds_succ]
  go_wp2_with (go_at_call 270; refine (unwrap_c b w at_ _ h).mono ?_; rintro e w' ⟨rfl, rfl⟩)
  rw [rounds_succ]
  go_wp2
  go_ret
  exact ⟨rfl, rfl⟩
theorem as_spot (b : Nat) (w : World) (hg : w.cell? ⟨0, 0, none⟩ = some (.iface 207 (.agg #[.pointer (some ⟨5, 34, none⟩)]))) :
    Calls Tryz.prog 63 #[.iface 93 (.pointer (some ⟨b, 0, none⟩)), .iface 107 (.pointer (some ⟨w.heap.size, 0, none⟩))] (w.alloc (.cells #[.pointer none] 93))
      fun e w' => e = .returned (.bool true) ∧ Below w.heap.size w w' ∧ w'.cell? ⟨w.heap.size, 0, none⟩ = some (.pointer (some ⟨b, 0, none⟩)) := by
  have hlt : 0 < w.heap.size := by
    rcases Nat.eq_zero_or_pos w.heap.size with h0 | h
    · simp [World.cell?, h0] at hg
    · exact h
  refine (as_hit ⟨b, 0, none⟩ ⟨w.heap.size, 0, none⟩ (.pointer none) _ ?_ ?_ ?_).mono ?_
  · rw [World.cell?_alloc_lt _ _ ⟨0, 0, none⟩ hlt]; exact hg
  · simp
  · simp
  · rintro e w' ⟨rfl, rfl⟩
    refine ⟨rfl, ?_, ?_⟩
    · refine Below.setCell (p := ⟨w.heap.size, 0, none⟩) ?_ (Nat.le_refl w.heap.size) _
      exact (((((Below.refl _ w).alloc (Nat.le_refl _) _).alloc (by simp) _).alloc (by simp; omega) _).alloc (by simp; omega) _).alloc (by simp; omega) _
    · refine World.cell?_setCell_same (u := .pointer none) _ (a := ⟨w.heap.size, 0, none⟩) (v := .pointer (some ⟨b, 0, none⟩)) ?_
      rw [World.cell?_alloc_lt _ _ ⟨w.heap.size, 0, none⟩ (by simp; omega), World.cell?_alloc_lt _ _ ⟨w.heap.size, 0, none⟩ (by simp; omega), World.cell?_alloc_lt _ _ ⟨w.heap.size, 0, none⟩ (by simp; omega), World.cell?_alloc_lt _ _ ⟨w.heap.size, 0, none⟩ (by simp)]
      simp
theorem RL.info50 : ((Tryz.prog).info? 93).map (·.comparable) = some true := by kernel_rfl
theorem RL.info52 : ((Tryz.prog).info? 95).isSome = true := by kernel_rfl
theorem RL.spotEq (a : Addr) (w : World) : (binOp .neq 34 (.iface 93 (.pointer (some a))) (.iface 93 (.pointer (some a)))).run Tryz.prog w = .ok (.bool false) w := by
  obtain ⟨i, hi, hc⟩ := Option.map_eq_some_iff.1 RL.info50
  obtain ⟨j, hj⟩ := Option.isSome_iff_exists.1 RL.info52
  simp only [binOp]
  simp [Op.equal, Op.maxDepth, run_equalIn_iface_ptr_same w 9998 a Tryz.underlying34 Tryz.underlying93 hi hc hj]
set_option maxRecDepth 100000 in
set_option maxHeartbeats 4000000 in
theorem is_c (b : Nat) (k : Int) (w : World) (hg : w.cell? ⟨0, 0, none⟩ = some (.iface 207 (.agg #[.pointer (some ⟨5, 34, none⟩)]))) (h : Blk w b #[.int .i64 k, .iface 70 (.int .i64 2)] 95) :
    Calls Tryz.prog 46 #[.iface 93 (.pointer (some ⟨b, 0, none⟩)), .int .i64 k, .int .i64 2] w fun e w' => e = .returned (.bool true) ∧ Below w.heap.size w w' := by
  have sE := RL.spotEq
  have lL := RL.like
  go_enter Tryz.func46, Tryz.ntmps46
  go_wp2_with (go_at_call 63; refine (as_spot b w hg).mono ?_; rintro e w' ⟨rfl, hb, hc⟩)
  have h2 := h.under hb h.lt
  have h3 := h2.cell 0
  have h4 := h2.cell 1
  simp at h3 h4
  go_wp2_with (go_at_call 94; refine (is_spot b _ _ h2).mono ?_; rintro e w' ⟨rfl, rfl⟩)
  go_ret
  exact ⟨rfl, hb⟩
end Go.Proofs.YtjeldfipipkfiaaGreatDoor
