/- errors.Is at a *api.Spot that wraps a Code, and merlonlaw00.Is. -/
import Derived.Test.YtbaoinofpiepmaaDoorAsC
namespace Go.Proofs.YtbaoinofpiepmaaDoor
open Go.RowKit Go.Extern.Stop Go.Stop Go.Extern
set_option linter.unusedSimpArgs false
set_option linter.unusedVariables false
abbrev cmpM : Array Value → Sem Value := ReflectliteType.method fun t => do Rtype.noPackHeld "Comparable" t; pure (.bool (← typeInfo t).comparable)
theorem RL.typeOfCode (v : Value) (w : World) : (ReflectliteType.typeOf #[.iface 28 v]).run Tryd.prog w = .ok (.iface 90 (.agg #[.pointer (some ⟨4, 28, none⟩)])) w := by kernel_rfl
theorem RL.methodComparable (h : Value) (w : World) : (Go.method 249 90 (.agg #[h]) "Comparable").run Tryd.prog w = .ok (97, .agg #[h]) w := by kernel_rfl
theorem RL.comparableCode (w : World) : (cmpM #[.agg #[.pointer (some ⟨4, 28, none⟩)]]).run Tryd.prog w = .ok (.bool true) w := by kernel_rfl
theorem RL.noIs (v : Value) (xT : TypeId) (w : World) : (Instr.typeAssert (.iface 50 v) xT 102 true).run Tryd.prog w = .ok (.tuple #[.nilIface, .bool false]) w := run_typeAssert_lacksB Tryd.underlying102 (by kernel_rfl) (by kernel_rfl) v xT w
theorem RL.hasUnwrap (v : Value) (xT : TypeId) (w : World) : (Instr.typeAssert (.iface 50 v) xT 97 true).run Tryd.prog w = .ok (.tuple #[.iface 50 v, .bool true]) w := run_typeAssert_hasB Tryd.underlying97 (by kernel_rfl) v xT w
theorem RL.methodUnwrap (b : Addr) (w : World) : (Go.method 249 50 (.pointer (some b)) "Unwrap").run Tryd.prog w = .ok (90, .pointer (some b)) w := by kernel_rfl
theorem RL.unlike (v v2 : Value) (w : World) : (binOp .eql 25 (.iface 50 v) (.iface 28 v2)).run Tryd.prog w = .ok (.bool false) w := run_eql_iface_types _ _ _ _ Tryd.underlying25 (by decide) w
theorem RL.like (w : World) : (binOp .eql 25 (.iface 28 (.int .i64 2)) (.iface 28 (.int .i64 2))).run Tryd.prog w = .ok (.bool true) w := by kernel_rfl
theorem unwrap_c (b : Nat) (w : World) (at_ : Value) (c : Value) (h : Blk w b #[at_, c] 52) : Calls Tryd.prog 90 #[.pointer (some ⟨b, 0, none⟩)] w fun e w' => e = .returned c ∧ w' = w := by
  have h1 := h.cell 1
  simp at h1
  go_enter Tryd.func90, Tryd.ntmps90
  go_wp2
  go_ret
  exact ⟨rfl, rfl⟩
set_option maxRecDepth 100000 in
set_option maxHeartbeats 4000000 in
theorem is_spot (b : Nat) (at_ : Value) (w : World) (h : Blk w b #[at_, .iface 28 (.int .i64 2)] 52) :
    Calls Tryd.prog 24 #[.iface 50 (.pointer (some ⟨b, 0, none⟩)), .iface 28 (.int .i64 2)] w fun e w' => e = .returned (.bool true) ∧ w' = w := by
  have hC := @run_callFunc_extern Tryd.prog 97 _ cmpM Tryd.func97 (by kernel_rfl) (by kernel_rfl) (by kernel_rfl) (by kernel_rfl)
  have hT := @run_callFunc_extern Tryd.prog 40 _ ReflectliteType.typeOf Tryd.func40 (by kernel_rfl) (by kernel_rfl) (by kernel_rfl) (by kernel_rfl)
  have tO := RL.typeOfCode
  have mC := RL.methodComparable
  have cC := RL.comparableCode
  have nI := RL.noIs
  have hU := RL.hasUnwrap
  have mU := RL.methodUnwrap
  have uL := RL.unlike
  have lL := RL.like
  go_enter Tryd.func24, Tryd.ntmps24
  go_wp2
  refine wp_loop_rounds 2 ?_
  rw [rounds_succ]
  go_wp2_with (go_at_call 90; refine (unwrap_c b w at_ _ h).mono ?_; rintro e w' ⟨rfl, rfl⟩)
  rw [rounds_succ]
  go_wp2
  go_ret
  exact ⟨rfl, rfl⟩
theorem as_spot (b : Nat) (w : World) (hg : w.cell? ⟨0, 0, none⟩ = some (.iface 90 (.agg #[.pointer (some ⟨4, 25, none⟩)]))) :
    Calls Tryd.prog 23 #[.iface 50 (.pointer (some ⟨b, 0, none⟩)), .iface 54 (.pointer (some ⟨w.heap.size, 0, none⟩))] (w.alloc (.cells #[.pointer none] 50))
      fun e w' => e = .returned (.bool true) ∧ Below w.heap.size w w' ∧ w'.cell? ⟨w.heap.size, 0, none⟩ = some (.pointer (some ⟨b, 0, none⟩)) := by
  have hlt : 0 < w.heap.size := by
    rcases Nat.eq_zero_or_pos w.heap.size with h0 | h
    · simp [World.cell?, h0] at hg
    · exact h
  refine (as_hit ⟨b, 0, none⟩ ⟨w.heap.size, 0, none⟩ (.pointer none) _ ?_ ?_ ?_).mono ?_
  · rw [World.cell?_alloc_lt _ _ ⟨0, 0, none⟩ hlt]; exact hg
  · simp
  · simp
  · rintro e w' ⟨rfl, rfl⟩
    refine ⟨rfl, ?_, ?_⟩
    · refine Below.setCell (p := ⟨w.heap.size, 0, none⟩) ?_ (Nat.le_refl w.heap.size) _
      exact (((((Below.refl _ w).alloc (Nat.le_refl _) _).alloc (by simp) _).alloc (by simp; omega) _).alloc (by simp; omega) _).alloc (by simp; omega) _
    · refine World.cell?_setCell_same (u := .pointer none) _ (a := ⟨w.heap.size, 0, none⟩) (v := .pointer (some ⟨b, 0, none⟩)) ?_
      rw [World.cell?_alloc_lt _ _ ⟨w.heap.size, 0, none⟩ (by simp; omega), World.cell?_alloc_lt _ _ ⟨w.heap.size, 0, none⟩ (by simp; omega), World.cell?_alloc_lt _ _ ⟨w.heap.size, 0, none⟩ (by simp; omega), World.cell?_alloc_lt _ _ ⟨w.heap.size, 0, none⟩ (by simp)]
      simp
theorem RL.info50 : ((Tryd.prog).info? 50).map (·.comparable) = some true := by kernel_rfl
theorem RL.info52 : ((Tryd.prog).info? 52).isSome = true := by kernel_rfl
theorem RL.spotEq (a : Addr) (w : World) : (binOp .neq 25 (.iface 50 (.pointer (some a))) (.iface 50 (.pointer (some a)))).run Tryd.prog w = .ok (.bool false) w := by
  obtain ⟨i, hi, hc⟩ := Option.map_eq_some_iff.1 RL.info50
  obtain ⟨j, hj⟩ := Option.isSome_iff_exists.1 RL.info52
  simp only [binOp]
  simp [Op.equal, Op.maxDepth, run_equalIn_iface_ptr_same w 9998 a Tryd.underlying25 Tryd.underlying50 hi hc hj]
set_option maxRecDepth 100000 in
set_option maxHeartbeats 4000000 in
theorem is_c (b : Nat) (k : Int) (w : World) (hg : w.cell? ⟨0, 0, none⟩ = some (.iface 90 (.agg #[.pointer (some ⟨4, 25, none⟩)]))) (h : Blk w b #[.int .i64 k, .iface 28 (.int .i64 2)] 52) :
    Calls Tryd.prog 9 #[.iface 50 (.pointer (some ⟨b, 0, none⟩)), .int .i64 k, .int .i64 2] w fun e w' => e = .returned (.bool true) ∧ Below w.heap.size w w' := by
  have sE := RL.spotEq
  have lL := RL.like
  go_enter Tryd.func9, Tryd.ntmps9
  go_wp2_with (go_at_call 23; refine (as_spot b w hg).mono ?_; rintro e w' ⟨rfl, hb, hc⟩)
  have h2 := h.under hb h.lt
  have h3 := h2.cell 0
  have h4 := h2.cell 1
  simp at h3 h4
  go_wp2_with (go_at_call 24; refine (is_spot b _ _ h2).mono ?_; rintro e w' ⟨rfl, rfl⟩)
  go_ret
  exact ⟨rfl, hb⟩
end Go.Proofs.YtbaoinofpiepmaaDoor
