/- errors.As and errors.Is at a *api.Spot (after the guide's ToyasAs; printed by mkas.py). -/
import Derived.Test.YtjeldfipipkfiaaGreatDoorGReg
import Derived.LaidEql
import Derived.Stop.Asserts
import Derived.Test.YtjeldfipipkfiaaGreatDoorChkC
import Derived.Lib.IfaceEq
namespace Go.Proofs.YtjeldfipipkfiaaGreatDoor
open Go.RowKit Go.Extern.Stop Go.Stop Go.Extern
set_option linter.unusedSimpArgs false
set_option linter.unusedVariables false
theorem RL.valueOf27 (t : Addr) (w : World) : (ReflectliteValue.unpack (.iface 107 (.pointer (some t)))).run Tryz.prog w
    = .ok (.agg #[.pointer (some ⟨5, 107, none⟩), .pointer (some ⟨w.heap.size, 0, none⟩), .int .u64 150]) (w.alloc (.cells #[.pointer (some t)] 107)) := by kernel_rfl
theorem RL.type27 (a : Addr) (w : World) : (ReflectliteValue.methodAny (ReflectliteValue.valueError "reflectlite.Value.Type" 0) (fun t _ _ _ => ReflectliteType.toType t) #[.agg #[.pointer (some ⟨5, 107, none⟩), .pointer (some a), .int .u64 150]]).run Tryz.prog w
    = .ok (.iface 207 (.agg #[.pointer (some ⟨5, 107, none⟩)])) w := by kernel_rfl
theorem RL.methodKind (h : Value) (w : World) : (Go.method 404 207 (.agg #[h]) "Kind").run Tryz.prog w = .ok (265, h) w := by kernel_rfl
theorem RL.kind27 (w : World) : ((ReflectliteType.abiMethod fun t => (fun a : Nat => Value.int IntKind.u8 (a : Int)) <$> Rtype.kind t) #[.pointer (some ⟨5, 107, none⟩)]).run Tryz.prog w = .ok (.int .u8 22) w := by kernel_rfl
theorem RL.kind25 (w : World) : ((ReflectliteType.abiMethod fun t => (fun a : Nat => Value.int IntKind.u8 (a : Int)) <$> Rtype.kind t) #[.pointer (some ⟨5, 93, none⟩)]).run Tryz.prog w = .ok (.int .u8 22) w := by kernel_rfl

theorem rlm (z : Sem Value) (f : TypeId → Addr → Nat → Nat → Sem Value) (v : Value) :
    ReflectliteValue.method z f #[v] = (do match ← ReflectliteValue.parts v with | none => z | some (t, a, fl) => f t a fl (fl % 32)) := rfl
theorem RL.parts27 (a : Addr) (w : World) : (ReflectliteValue.parts (.agg #[.pointer (some ⟨5, 107, none⟩), .pointer (some a), .int .u64 150])).run Tryz.prog w = .ok (some (107, a, 150)) w := by kernel_rfl
theorem RL.isNil27 (a p : Addr) (W : World) (ha : W.cell? a = some (.pointer (some p))) :
    (ReflectliteValue.method (ReflectliteValue.valueError "reflectlite.Value.IsNil" 0) ReflectliteValue.isNil #[.agg #[.pointer (some ⟨5, 107, none⟩), .pointer (some a), .int .u64 150]]).run Tryz.prog W = .ok (.bool false) W := by
  rw [rlm]
  simp only [Sem.run_bind, RL.parts27, Result.andThen]
  simp [ReflectliteValue.isNil, loadVar, isAgg, underlying, Tryz.underlying107, ha, Result.andThen]

theorem RL.methodElem (h : Value) (w : World) : (Go.method 404 207 (.agg #[h]) "Elem").run Tryz.prog w = .ok (278, .agg #[h]) w := by kernel_rfl
theorem RL.methodImplements (h : Value) (w : World) : (Go.method 404 207 (.agg #[h]) "Implements").run Tryz.prog w = .ok (279, .agg #[h]) w := by kernel_rfl
theorem RL.methodAssignableTo (h : Value) (w : World) : (Go.method 404 207 (.agg #[h]) "AssignableTo").run Tryz.prog w = .ok (276, .agg #[h]) w := by kernel_rfl
theorem RL.elem27 (w : World) : (ReflectliteType.method ReflectliteType.elem #[.agg #[.pointer (some ⟨5, 107, none⟩)]]).run Tryz.prog w = .ok (.iface 207 (.agg #[.pointer (some ⟨5, 93, none⟩)])) w := by kernel_rfl
theorem RL.implements25 (w : World) : (ReflectliteType.relation "Implements" ReflectliteType.implements_ #[.agg #[.pointer (some ⟨5, 93, none⟩)], .iface 207 (.agg #[.pointer (some ⟨5, 34, none⟩)])]).run Tryz.prog w = .ok (.bool true) w := by kernel_rfl
theorem RL.typeOf25 (v : Value) (w : World) : (ReflectliteType.typeOf #[.iface 93 v]).run Tryz.prog w = .ok (.iface 207 (.agg #[.pointer (some ⟨5, 93, none⟩)])) w := by kernel_rfl
theorem RL.assignable25 (w : World) : (ReflectliteType.relation "AssignableTo" ReflectliteType.assignableTo #[.agg #[.pointer (some ⟨5, 93, none⟩)], .iface 207 (.agg #[.pointer (some ⟨5, 93, none⟩)])]).run Tryz.prog w = .ok (.bool true) w := by kernel_rfl
theorem RL.valueOf25 (e : Addr) (w : World) : (ReflectliteValue.unpack (.iface 93 (.pointer (some e)))).run Tryz.prog w
    = .ok (.agg #[.pointer (some ⟨5, 93, none⟩), .pointer (some ⟨w.heap.size, 0, none⟩), .int .u64 150]) (w.alloc (.cells #[.pointer (some e)] 93)) := by kernel_rfl

theorem RL.elemOf27 (w : World) : (Rtype.elem? 107).run Tryz.prog w = .ok (some 93) w := by kernel_rfl
theorem RL.mk25 (p : Addr) (w : World) : (ReflectliteValue.mk 93 p ReflectliteValue.flagAddr).run Tryz.prog w = .ok (.agg #[.pointer (some ⟨5, 93, none⟩), .pointer (some p), .int .u64 406]) w := by kernel_rfl
theorem RL.elemV27 (a p : Addr) (W : World) (ha : W.cell? a = some (.pointer (some p))) :
    (ReflectliteValue.method (ReflectliteValue.valueError "reflectlite.Value.Elem" 0) ReflectliteValue.elem #[.agg #[.pointer (some ⟨5, 107, none⟩), .pointer (some a), .int .u64 150]]).run Tryz.prog W
      = .ok (.agg #[.pointer (some ⟨5, 93, none⟩), .pointer (some p), .int .u64 406]) W := by
  rw [rlm]
  simp only [Sem.run_bind, RL.parts27, Result.andThen]
  simp [ReflectliteValue.elem, loadVar, isAgg, underlying, Tryz.underlying107, ha, Result.andThen, RL.elemOf27, RL.mk25]
theorem rls (v x : Value) : ReflectliteValue.set #[v, x] = (do
    let (some (dst, a, fl), some (src, b, _)) := (← ReflectliteValue.parts v, ← ReflectliteValue.parts x)
      | unsupported (.noEntry "extern/(internal/reflectlite.Value).Set.zeroValue")
    if fl / ReflectliteValue.flagAddr % 2 == 0 then unsupported (.noEntry "extern/(internal/reflectlite.Value).Set.unaddressable")
    let val ← loadVar src b
    if ← Rtype.directlyAssignable dst src then storeVar dst a val
    else if ← Rtype.implements dst src then
      if (← Rtype.kind src) == 20 then
        match val with
        | .nilIface => unsupported (.noEntry "extern/reflectlite: a nil value of one interface type handed on as a value of another")
        | _ => storeVar dst a val
      else storeVar dst a (.iface src val)
    else panicString ("reflectlite.Set: value of type " ++ (← Rtype.spelt src) ++ " is not assignable to type " ++ (← Rtype.spelt dst))
    pure (.tuple #[])) := rfl
theorem RL.parts25a (a : Addr) (w : World) : (ReflectliteValue.parts (.agg #[.pointer (some ⟨5, 93, none⟩), .pointer (some a), .int .u64 406])).run Tryz.prog w = .ok (some (93, a, 406)) w := by kernel_rfl
theorem RL.parts25 (a : Addr) (w : World) : (ReflectliteValue.parts (.agg #[.pointer (some ⟨5, 93, none⟩), .pointer (some a), .int .u64 150])).run Tryz.prog w = .ok (some (93, a, 150)) w := by kernel_rfl
theorem RL.direct25 (w : World) : (Rtype.directlyAssignable 93 93).run Tryz.prog w = .ok true w := by kernel_rfl
theorem RL.set25 (ta b e : Addr) (old : Value) (W : World) (hb : W.cell? b = some (.pointer (some e))) (ht : W.cell? ta = some old) (hf : W.frozen? ta = false) :
    (ReflectliteValue.set #[.agg #[.pointer (some ⟨5, 93, none⟩), .pointer (some ta), .int .u64 406], .agg #[.pointer (some ⟨5, 93, none⟩), .pointer (some b), .int .u64 150]]).run Tryz.prog W
      = .ok (.tuple #[]) (W.setCell ta (.pointer (some e))) := by
  rw [rls]
  simp only [Sem.run_bind, RL.parts25a, RL.parts25, Result.andThen]
  simp [ReflectliteValue.flagAddr, loadVar, isAgg, underlying, Tryz.underlying93, hb, Result.andThen, RL.direct25, storeVar, Value.cells, storeCells, Addr.add]
  rw [run_store Tryz.prog W ta _ _ (by rfl)]
  simp [ht, hf]

set_option maxHeartbeats 4000000 in
theorem as_hit (e t : Addr) (old : Value) (w : World) (hg : w.cell? ⟨0, 0, none⟩ = some (.iface 207 (.agg #[.pointer (some ⟨5, 34, none⟩)]))) (ht0 : w.cell? t = some old) (hf0 : w.frozen? t = false) :
    Calls Tryz.prog 63 #[.iface 93 (.pointer (some e)), .iface 107 (.pointer (some t))] w fun ev w' => ev = .returned (.bool true) ∧ w' = ((((w.alloc (.cells #[.pointer (some t)] 107)).alloc (.cells #[.pointer (some ⟨5, 107, none⟩), .pointer (some ⟨w.heap.size, 0, none⟩), .int .u64 150] 154)).alloc (.cells #[.pointer (some ⟨5, 107, none⟩), .pointer (some ⟨w.heap.size, 0, none⟩), .int .u64 150] 154)).alloc (.cells #[.pointer (some e)] 93)).setCell t (.pointer (some e)) := by
  have h6 := @run_callFunc_extern Tryz.prog 116 _ (fun args => ReflectliteValue.unpack (args.getD 0 (.tuple #[]))) Tryz.func116 (by kernel_rfl) (by kernel_rfl) (by kernel_rfl) (by kernel_rfl)
  have h7 := @run_callFunc_extern Tryz.prog 117 _ (ReflectliteValue.methodAny (ReflectliteValue.valueError "reflectlite.Value.Type" 0) (fun t _ _ _ => ReflectliteType.toType t)) Tryz.func117 (by kernel_rfl) (by kernel_rfl) (by kernel_rfl) (by kernel_rfl)
  have h8 := @run_callFunc_extern Tryz.prog 118 _ (ReflectliteValue.method (ReflectliteValue.valueError "reflectlite.Value.IsNil" 0) ReflectliteValue.isNil) Tryz.func118 (by kernel_rfl) (by kernel_rfl) (by kernel_rfl) (by kernel_rfl)
  have h27 := @run_callFunc_extern Tryz.prog 265 _ (ReflectliteType.abiMethod fun t => do pure (.int .u8 (← Rtype.kind t))) Tryz.func265 (by kernel_rfl) (by kernel_rfl) (by kernel_rfl) (by kernel_rfl)
  have h37 := @run_callFunc_extern Tryz.prog 278 _ (ReflectliteType.method ReflectliteType.elem) Tryz.func278 (by kernel_rfl) (by kernel_rfl) (by kernel_rfl) (by kernel_rfl)
  have h38 := @run_callFunc_extern Tryz.prog 279 _ (ReflectliteType.relation "Implements" ReflectliteType.implements_) Tryz.func279 (by kernel_rfl) (by kernel_rfl) (by kernel_rfl) (by kernel_rfl)
  have h10 := @run_callFunc_extern Tryz.prog 158 _ ReflectliteType.typeOf Tryz.func158 (by kernel_rfl) (by kernel_rfl) (by kernel_rfl) (by kernel_rfl)
  have h35 := @run_callFunc_extern Tryz.prog 276 _ (ReflectliteType.relation "AssignableTo" ReflectliteType.assignableTo) Tryz.func276 (by kernel_rfl) (by kernel_rfl) (by kernel_rfl) (by kernel_rfl)
  have h11 := @run_callFunc_extern Tryz.prog 183 _ (ReflectliteValue.method (ReflectliteValue.valueError "reflectlite.Value.Elem" 0) ReflectliteValue.elem) Tryz.func183 (by kernel_rfl) (by kernel_rfl) (by kernel_rfl) (by kernel_rfl)
  have h12 := @run_callFunc_extern Tryz.prog 184 _ ReflectliteValue.set Tryz.func184 (by kernel_rfl) (by kernel_rfl) (by kernel_rfl) (by kernel_rfl)
  have tO := RL.typeOf25
  have mA := RL.methodAssignableTo
  have a25 := RL.assignable25
  have v25 := RL.valueOf25
  have f6 := RL.valueOf27
  have f7 := RL.type27
  have mK := RL.methodKind
  have mE := RL.methodElem
  have mI := RL.methodImplements
  have k27 := RL.kind27
  have k25 := RL.kind25
  have e27 := RL.elem27
  have i25 := RL.implements25
  have n8 := RL.isNil27 ⟨w.heap.size, 0, none⟩ t ((w.alloc (.cells #[.pointer (some t)] 107)).alloc (.cells #[.pointer (some ⟨5, 107, none⟩), .pointer (some ⟨w.heap.size, 0, none⟩), .int .u64 150] 154)) (by simp)
  have hlt : 0 < w.heap.size := by
    rcases Nat.eq_zero_or_pos w.heap.size with h0 | h
    · simp [World.cell?, h0] at hg
    · exact h
  have hg2 : ((w.alloc (.cells #[.pointer (some t)] 107)).alloc (.cells #[.pointer (some ⟨5, 107, none⟩), .pointer (some ⟨w.heap.size, 0, none⟩), .int .u64 150] 154)).cell? ⟨0, 0, none⟩ = some (.iface 207 (.agg #[.pointer (some ⟨5, 34, none⟩)])) := by
    rw [World.cell?_alloc_lt _ _ ⟨0, 0, none⟩ (by simp), World.cell?_alloc_lt _ _ ⟨0, 0, none⟩ hlt]; exact hg
  have htl : t.block < w.heap.size := by
    rcases Nat.lt_or_ge t.block w.heap.size with h | h
    · exact h
    · simp [World.cell?, Array.getElem?_eq_none h] at ht0
  have el := RL.elemV27 ⟨w.heap.size, 0, none⟩ t (((w.alloc (.cells #[.pointer (some t)] 107)).alloc (.cells #[.pointer (some ⟨5, 107, none⟩), .pointer (some ⟨w.heap.size, 0, none⟩), .int .u64 150] 154)).alloc (.cells #[.pointer (some ⟨5, 107, none⟩), .pointer (some ⟨w.heap.size, 0, none⟩), .int .u64 150] 154)) (by rw [World.cell?_alloc_lt _ _ ⟨w.heap.size, 0, none⟩ (by simp; omega)]; simp)
  have st := RL.set25 t ⟨w.heap.size + 1 + 1 + 1, 0, none⟩ e old ((((w.alloc (.cells #[.pointer (some t)] 107)).alloc (.cells #[.pointer (some ⟨5, 107, none⟩), .pointer (some ⟨w.heap.size, 0, none⟩), .int .u64 150] 154)).alloc (.cells #[.pointer (some ⟨5, 107, none⟩), .pointer (some ⟨w.heap.size, 0, none⟩), .int .u64 150] 154)).alloc (.cells #[.pointer (some e)] 93))
    (by rw [World.cell?_alloc_at _ _ _ _ (by simp)]; rfl)
    (by rw [World.cell?_alloc_lt _ _ t (by simp; omega), World.cell?_alloc_lt _ _ t (by simp; omega), World.cell?_alloc_lt _ _ t (by simp; omega), World.cell?_alloc_lt _ _ t htl]; exact ht0)
    (by rw [World.frozen?_alloc_old _ _ t (by simp; omega), World.frozen?_alloc_old _ _ t (by simp; omega), World.frozen?_alloc_old _ _ t (by simp; omega), World.frozen?_alloc_old _ _ t (Nat.ne_of_lt htl)]; exact hf0)
  go_enter Tryz.func63, Tryz.ntmps63
  go_wp2
  refine wp_loop_rounds 1 ?_
  rw [rounds_succ]
  go_wp2
  go_ret
  exact ⟨rfl, rfl⟩
end Go.Proofs.YtjeldfipipkfiaaGreatDoor
namespace Go.Proofs.YtjeldfipipkfiaaGreatDoor
open Go.RowKit Go.Extern.Stop Go.Stop Go.Extern
set_option linter.unusedSimpArgs false
set_option linter.unusedVariables false
abbrev cmpM : Array Value → Sem Value := ReflectliteType.method fun t => do Rtype.noPackHeld "Comparable" t; pure (.bool (← typeInfo t).comparable)
theorem RL.typeOfCode (v : Value) (w : World) : (ReflectliteType.typeOf #[.iface 70 v]).run Tryz.prog w = .ok (.iface 207 (.agg #[.pointer (some ⟨5, 70, none⟩)])) w := by kernel_rfl
theorem RL.methodComparable (h : Value) (w : World) : (Go.method 404 207 (.agg #[h]) "Comparable").run Tryz.prog w = .ok (277, .agg #[h]) w := by kernel_rfl
theorem RL.comparableCode (w : World) : (cmpM #[.agg #[.pointer (some ⟨5, 70, none⟩)]]).run Tryz.prog w = .ok (.bool true) w := by kernel_rfl
theorem RL.noIs (v : Value) (xT : TypeId) (w : World) : (Instr.typeAssert (.iface 93 v) xT 237 true).run Tryz.prog w = .ok (.tuple #[.nilIface, .bool false]) w := run_typeAssert_lacksB Tryz.underlying237 (by kernel_rfl) (by kernel_rfl) v xT w
theorem RL.hasUnwrap (v : Value) (xT : TypeId) (w : World) : (Instr.typeAssert (.iface 93 v) xT 214 true).run Tryz.prog w = .ok (.tuple #[.iface 93 v, .bool true]) w := run_typeAssert_hasB Tryz.underlying214 (by kernel_rfl) v xT w
theorem RL.methodUnwrap (b : Addr) (w : World) : (Go.method 404 93 (.pointer (some b)) "Unwrap").run Tryz.prog w = .ok (270, .pointer (some b)) w := by kernel_rfl
theorem RL.unlike (v v2 : Value) (w : World) : (binOp .eql 34 (.iface 93 v) (.iface 70 v2)).run Tryz.prog w = .ok (.bool false) w := run_eql_iface_types _ _ _ _ Tryz.underlying34 (by decide) w
theorem unwrap_c (b : Nat) (w : World) (at_ : Value) (c : Value) (h : Blk w b #[at_, c] 95) : Calls Tryz.prog 270 #[.pointer (some ⟨b, 0, none⟩)] w fun e w' => e = .returned c ∧ w' = w := by
  have h1 := h.cell 1
  simp at h1
  go_enter Tryz.func270, Tryz.ntmps270
  go_wp2
  go_ret
  exact ⟨rfl, rfl⟩
theorem as_spot (b : Nat) (w : World) (hg : w.cell? ⟨0, 0, none⟩ = some (.iface 207 (.agg #[.pointer (some ⟨5, 34, none⟩)]))) :
    Calls Tryz.prog 63 #[.iface 93 (.pointer (some ⟨b, 0, none⟩)), .iface 107 (.pointer (some ⟨w.heap.size, 0, none⟩))] (w.alloc (.cells #[.pointer none] 93))
      fun e w' => e = .returned (.bool true) ∧ Below w.heap.size w w' ∧ w'.cell? ⟨w.heap.size, 0, none⟩ = some (.pointer (some ⟨b, 0, none⟩)) := by
  have hlt : 0 < w.heap.size := by
    rcases Nat.eq_zero_or_pos w.heap.size with h0 | h
    · simp [World.cell?, h0] at hg
    · exact h
  refine (as_hit ⟨b, 0, none⟩ ⟨w.heap.size, 0, none⟩ (.pointer none) _ ?_ ?_ ?_).mono ?_
  · rw [World.cell?_alloc_lt _ _ ⟨0, 0, none⟩ hlt]; exact hg
  · simp
  · simp
  · rintro e w' ⟨rfl, rfl⟩
    refine ⟨rfl, ?_, ?_⟩
    · refine Below.setCell (p := ⟨w.heap.size, 0, none⟩) ?_ (Nat.le_refl w.heap.size) _
      exact (((((Below.refl _ w).alloc (Nat.le_refl _) _).alloc (by simp) _).alloc (by simp; omega) _).alloc (by simp; omega) _).alloc (by simp; omega) _
    · refine World.cell?_setCell_same (u := .pointer none) _ (a := ⟨w.heap.size, 0, none⟩) (v := .pointer (some ⟨b, 0, none⟩)) ?_
      rw [World.cell?_alloc_lt _ _ ⟨w.heap.size, 0, none⟩ (by simp; omega), World.cell?_alloc_lt _ _ ⟨w.heap.size, 0, none⟩ (by simp; omega), World.cell?_alloc_lt _ _ ⟨w.heap.size, 0, none⟩ (by simp; omega), World.cell?_alloc_lt _ _ ⟨w.heap.size, 0, none⟩ (by simp)]
      simp
theorem RL.info50 : ((Tryz.prog).info? 93).map (·.comparable) = some true := by kernel_rfl
theorem RL.info52 : ((Tryz.prog).info? 95).isSome = true := by kernel_rfl
theorem RL.spotEq (a : Addr) (w : World) : (binOp .neq 34 (.iface 93 (.pointer (some a))) (.iface 93 (.pointer (some a)))).run Tryz.prog w = .ok (.bool false) w := by
  obtain ⟨i, hi, hc⟩ := Option.map_eq_some_iff.1 RL.info50
  obtain ⟨j, hj⟩ := Option.isSome_iff_exists.1 RL.info52
  simp only [binOp]
  simp [Op.equal, Op.maxDepth, run_equalIn_iface_ptr_same w 9998 a Tryz.underlying34 Tryz.underlying93 hi hc hj]
end Go.Proofs.YtjeldfipipkfiaaGreatDoor
namespace Go.Proofs.YtjeldfipipkfiaaGreatDoor
open Go.RowKit Go.Extern.Stop Go.Stop Go.Extern
set_option linter.unusedSimpArgs false
set_option linter.unusedVariables false
def HandleE (w : World) : Prop := w.cell? ⟨0, 0, none⟩ = some (.iface 207 (.agg #[.pointer (some ⟨5, 34, none⟩)]))
theorem HandleE.pos {w : World} (h : HandleE w) : 0 < w.heap.size := by
  rcases Nat.eq_zero_or_pos w.heap.size with h0 | h1
  · simp [HandleE, World.cell?, h0] at h
  · exact h1
theorem HandleE.under {w w' : World} (h : HandleE w) (hb : Below w.heap.size w w') : HandleE w' := by
  have := h.pos
  unfold HandleE
  rw [hb.cell (p := ⟨0, 0, none⟩) this]
  exact h
theorem HandleE.alloc {w : World} (h : HandleE w) (o : Obj) : HandleE (w.alloc o) := h.under ((Below.refl _ _).alloc (Nat.le_refl _) _)
theorem RL.likeC (a b : Int) (w : World) : (binOp .eql 34 (.iface 70 (.int .i64 a)) (.iface 70 (.int .i64 b))).run Tryz.prog w = .ok (.bool (a == b)) w :=
  Lib.run_eql_iface_int w a b Tryz.underlying34 (by kernel_rfl) Tryz.underlying70
theorem RL.nilC (a : Int) (w : World) : (binOp .eql 34 (.iface 70 (.int .i64 a)) .nilIface).run Tryz.prog w = .ok (.bool false) w := by kernel_rfl
theorem is_spotC (b : Nat) (at_ : Value) (c : Int) (w : World) (h : Blk w b #[at_, .iface 70 (.int .i64 c)] 95) :
    Calls Tryz.prog 94 #[.iface 93 (.pointer (some ⟨b, 0, none⟩)), .iface 70 (.int .i64 c)] w fun e w' => e = .returned (.bool true) ∧ w' = w := by
  have hC := @run_callFunc_extern Tryz.prog 277 _ cmpM Tryz.func277 (by kernel_rfl) (by kernel_rfl) (by kernel_rfl) (by kernel_rfl)
  have hT := @run_callFunc_extern Tryz.prog 158 _ ReflectliteType.typeOf Tryz.func158 (by kernel_rfl) (by kernel_rfl) (by kernel_rfl) (by kernel_rfl)
  have tO := RL.typeOfCode
  have mC := RL.methodComparable
  have cC := RL.comparableCode
  have nI := RL.noIs
  have hU := RL.hasUnwrap
  have mU := RL.methodUnwrap
  have uL := RL.unlike
  have lL : ∀ w, (binOp .eql 34 (.iface 70 (.int .i64 c)) (.iface 70 (.int .i64 c))).run Tryz.prog w = .ok (.bool true) w := fun w => by
    have := RL.likeC c c w
    rwa [beq_self_eq_true] at this
  go_enter Tryz.func94, Tryz.ntmps94
  go_wp2
  refine wp_loop_rounds 2 ?_
  rw [rounds_succ]
  go_wp2_with (go_at_call 270; refine (unwrap_c b w at_ _ h).mono ?_; rintro e w' ⟨rfl, rfl⟩)
  rw [rounds_succ]
  go_wp2
  go_ret
  exact ⟨rfl, rfl⟩
set_option maxRecDepth 100000 in
set_option maxHeartbeats 4000000 in
theorem isC_c (b : Nat) (k c : Int) (w : World) (hg : HandleE w) (h : Blk w b #[.int .i64 k, .iface 70 (.int .i64 c)] 95) :
    Calls Tryz.prog 46 #[.iface 93 (.pointer (some ⟨b, 0, none⟩)), .int .i64 k, .int .i64 c] w fun e w' => e = .returned (.bool true) ∧ Below w.heap.size w w' := by
  have sE := RL.spotEq
  have lL : ∀ w, (binOp .eql 34 (.iface 70 (.int .i64 c)) (.iface 70 (.int .i64 c))).run Tryz.prog w = .ok (.bool true) w := fun w => by
    have := RL.likeC c c w
    rwa [beq_self_eq_true] at this
  go_enter Tryz.func46, Tryz.ntmps46
  go_wp2_with (go_at_call 63; refine (as_spot b w hg).mono ?_; rintro e w' ⟨rfl, hb, hc⟩)
  have h2 := h.under hb h.lt
  have h3 := h2.cell 0
  have h4 := h2.cell 1
  simp at h3 h4
  go_wp2_with (go_at_call 94; refine (is_spotC b _ c _ h2).mono ?_; rintro e w' ⟨rfl, rfl⟩)
  go_ret
  exact ⟨rfl, hb⟩
/-! Code -/
set_option maxHeartbeats 4000000 in
theorem codeN_c (c : Int) (h1 : 1 ≤ c) (h12 : c ≤ 12) (w : World) : Calls Tryz.prog 34 #[.iface 70 (.int .i64 c)] w fun e w' => e = .returned (.int .i64 c) ∧ w' = w := by
  have l0 := RL.nilC c
  have lC := RL.likeC c
  go_enter Tryz.func34, Tryz.ntmps34
  go_wp2_with fail
  go_loop [3] (fun i => ∃ k : Nat, i = .int .i64 k ∧ 1 ≤ k ∧ (k : Int) ≤ c) (fun i => 12 - (intOf i).toNat)
  case atStart => exact ⟨1, rfl, Nat.le_refl _, h1⟩
  case round =>
    obtain ⟨k, rfl, hk1, hkc⟩ := hrel
    have hk12 : (k : Int) ≤ 12 := by omega
    by_cases e : (k : Int) = c
    · have he : (c == (k : Int)) = true := by rw [e]; exact beq_self_eq_true c
      have lk := lC k
      rw [he] at lk
      go_wp2_with fail
      go_ret
      first
        | exact ⟨rfl, rfl⟩
        | exact ⟨ret_i e, rfl⟩
    · have he : (c == (k : Int)) = false := by simpa using Ne.symm e
      have lk := lC k
      rw [he] at lk
      go_wp2_with fail
      exact ⟨⟨k + 1, by go_num, by omega, by omega⟩, by simp [intOf]; omega⟩
theorem codeNil_c (w : World) : Calls Tryz.prog 34 #[.nilIface] w fun e w' => e = .returned (.int .i64 0) ∧ w' = w := by
  go_enter Tryz.func34, Tryz.ntmps34
  go_wp2_with fail
  go_ret
  exact ⟨rfl, rfl⟩
def numE : Option (Int × Option Nat) → Int × Int
  | none => (0, -1)
  | some (c, none) => (c, -1)
  | some (c, some i) => (c, i)
theorem told_c (v : Value) (r : Option (Int × Option Nat)) (w : World) (hg : HandleE w) (h : ErrAt w v r) (hr : ∀ c p, r = some (c, p) → 1 ≤ c ∧ c ≤ 12) :
    Calls Tryz.prog 17 #[v, .int .i64 (numE r).1, .int .i64 (numE r).2] w fun e w' => e = .returned (.bool true) ∧ Below w.heap.size w w' := by
  match r, h, hr with
  | none, h, _ =>
    obtain rfl := h
    show Calls Tryz.prog 17 #[.nilIface, .int .i64 0, .int .i64 (-1)] w _
    go_enter Tryz.func17, Tryz.ntmps17
    go_wp2_with (go_at_call 34; refine (codeNil_c _).mono ?_; rintro e w' ⟨rfl, rfl⟩)
    go_ret
    exact ⟨rfl, Below.refl _ _⟩
  | some (c, none), h, hr =>
    obtain rfl := h
    obtain ⟨h1, h12⟩ := hr c none rfl
    show Calls Tryz.prog 17 #[.iface 70 (.int .i64 c), .int .i64 c, .int .i64 (-1)] w _
    go_enter Tryz.func17, Tryz.ntmps17
    go_wp2_with (go_at_call 34; refine (codeN_c c h1 h12 _).mono ?_; rintro e w' ⟨rfl, rfl⟩)
    go_ret
    first
      | exact ⟨rfl, Below.refl _ _⟩
      | exact ⟨ret_b (by simp), Below.refl _ _⟩
  | some (c, some i), h, hr =>
    obtain ⟨b, rfl, hb⟩ := h
    show Calls Tryz.prog 17 #[.iface 93 (.pointer (some ⟨b, 0, none⟩)), .int .i64 c, .int .i64 ((i : Nat) : Int)] w _
    have hk : ¬ ((i : Nat) : Int) < 0 := by omega
    have HG := Lib.hid hg
    have HB := Lib.hid hb
    clear hg hb hr
    go_enter Tryz.func17, Tryz.ntmps17
    go_wp2_with (go_at_call 46; refine (isC_c b _ c _ HG.out HB.out).mono ?_; rintro e w' ⟨rfl, hb⟩)
    go_ret
    exact ⟨rfl, hb⟩
end Go.Proofs.YtjeldfipipkfiaaGreatDoor
