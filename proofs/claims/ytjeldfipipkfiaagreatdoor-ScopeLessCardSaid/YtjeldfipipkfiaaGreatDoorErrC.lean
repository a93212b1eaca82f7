/- Errors of scope.Check as merlonlaw00 sees them: Code, Is, Told, Of. -/
import Derived.Test.YtjeldfipipkfiaaGreatDoorIsC
import Derived.Test.YtjeldfipipkfiaaGreatDoorChkC
import Derived.Lib.IfaceEq
namespace Go.Proofs.YtjeldfipipkfiaaGreatDoor
open Go.RowKit Go.Extern.Stop Go.Stop Go.Extern
set_option linter.unusedSimpArgs false
set_option linter.unusedVariables false
def HandleE (w : World) : Prop := w.cell? ⟨0, 0, none⟩ = some (.iface 207 (.agg #[.pointer (some ⟨5, 34, none⟩)]))
theorem HandleE.pos {w : World} (h : HandleE w) : 0 < w.heap.size := by
  rcases Nat.eq_zero_or_pos w.heap.size with h0 | h1
  · simp [HandleE, World.cell?, h0] at h
  · exact h1
theorem HandleE.under {w w' : World} (h : HandleE w) (hb : Below w.heap.size w w') : HandleE w' := by
  have := h.pos
  unfold HandleE
  rw [hb.cell (p := ⟨0, 0, none⟩) this]
  exact h
theorem HandleE.alloc {w : World} (h : HandleE w) (o : Obj) : HandleE (w.alloc o) := h.under ((Below.refl _ _).alloc (Nat.le_refl _) _)
theorem RL.likeC (a b : Int) (w : World) : (binOp .eql 34 (.iface 70 (.int .i64 a)) (.iface 70 (.int .i64 b))).run Tryz.prog w = .ok (.bool (a == b)) w :=
  Lib.run_eql_iface_int w a b Tryz.underlying34 (by kernel_rfl) Tryz.underlying70
theorem RL.nilC (a : Int) (w : World) : (binOp .eql 34 (.iface 70 (.int .i64 a)) .nilIface).run Tryz.prog w = .ok (.bool false) w := by kernel_rfl
/-- errors.Is at a Spot of any Code -/
theorem is_spotC (b : Nat) (at_ : Value) (c : Int) (w : World) (h : Blk w b #[at_, .iface 70 (.int .i64 c)] 95) :
    Calls Tryz.prog 94 #[.iface 93 (.pointer (some ⟨b, 0, none⟩)), .iface 70 (.int .i64 c)] w fun e w' => e = .returned (.bool true) ∧ w' = w := by
  have hC := @run_callFunc_extern Tryz.prog 277 _ cmpM Tryz.func277 (by kernel_rfl) (by kernel_rfl) (by kernel_rfl) (by kernel_rfl)
  have hT := @run_callFunc_extern Tryz.prog 158 _ ReflectliteType.typeOf Tryz.func158 (by kernel_rfl) (by kernel_rfl) (by kernel_rfl) (by kernel_rfl)
  have tO := RL.typeOfCode
  have mC := RL.methodComparable
  have cC := RL.comparableCode
  have nI := RL.noIs
  have hU := RL.hasUnwrap
  have mU := RL.methodUnwrap
  have uL := RL.unlike
  have lL : ∀ w, (binOp .eql 34 (.iface 70 (.int .i64 c)) (.iface 70 (.int .i64 c))).run Tryz.prog w = .ok (.bool true) w := fun w => by
    have := RL.likeC c c w
    rwa [beq_self_eq_true] at this
  go_enter Tryz.func94, Tryz.ntmps94
  go_wp2
  refine wp_loop_rounds 2 ?_
  rw [rounds_succ]
  go_wp2_with (go_at_call 270; refine (unwrap_c b w at_ _ h).mono ?_; rintro e w' ⟨rfl, rfl⟩)
  rw [rounds_succ]
  go_wp2
  go_ret
  exact ⟨rfl, rfl⟩
set_option maxRecDepth 100000 in
set_option maxHeartbeats 4000000 in
theorem isC_c (b : Nat) (k c : Int) (w : World) (hg : HandleE w) (h : Blk w b #[.int .i64 k, .iface 70 (.int .i64 c)] 95) :
    Calls Tryz.prog 46 #[.iface 93 (.pointer (some ⟨b, 0, none⟩)), .int .i64 k, .int .i64 c] w fun e w' => e = .returned (.bool true) ∧ Below w.heap.size w w' := by
  have sE := RL.spotEq
  have lL : ∀ w, (binOp .eql 34 (.iface 70 (.int .i64 c)) (.iface 70 (.int .i64 c))).run Tryz.prog w = .ok (.bool true) w := fun w => by
    have := RL.likeC c c w
    rwa [beq_self_eq_true] at this
  go_enter Tryz.func46, Tryz.ntmps46
  go_wp2_with (go_at_call 63; refine (as_spot b w hg).mono ?_; rintro e w' ⟨rfl, hb, hc⟩)
  have h2 := h.under hb h.lt
  have h3 := h2.cell 0
  have h4 := h2.cell 1
  simp at h3 h4
  go_wp2_with (go_at_call 94; refine (is_spotC b _ c _ h2).mono ?_; rintro e w' ⟨rfl, rfl⟩)
  go_ret
  exact ⟨rfl, hb⟩
theorem RL.assignableC (w : World) : (ReflectliteType.relation "AssignableTo" ReflectliteType.assignableTo #[.agg #[.pointer (some ⟨5, 70, none⟩)], .iface 207 (.agg #[.pointer (some ⟨5, 93, none⟩)])]).run Tryz.prog w = .ok (.bool false) w := by kernel_rfl
theorem RL.noAsC (v : Value) (xT : TypeId) (w : World) : (Instr.typeAssert (.iface 70 v) xT 211 true).run Tryz.prog w = .ok (.tuple #[.nilIface, .bool false]) w := run_typeAssert_lacksB Tryz.underlying211 (by kernel_rfl) (by kernel_rfl) v xT w
theorem RL.noUnwC (v : Value) (xT : TypeId) (w : World) : (Instr.typeAssert (.iface 70 v) xT 214 true).run Tryz.prog w = .ok (.tuple #[.nilIface, .bool false]) w := run_typeAssert_lacksB Tryz.underlying214 (by kernel_rfl) (by kernel_rfl) v xT w
theorem RL.noUnwsC (v : Value) (xT : TypeId) (w : World) : (Instr.typeAssert (.iface 70 v) xT 216 true).run Tryz.prog w = .ok (.tuple #[.nilIface, .bool false]) w := run_typeAssert_lacksB Tryz.underlying216 (by kernel_rfl) (by kernel_rfl) v xT w
theorem as_nilC (t : Addr) (w : World) : Calls Tryz.prog 63 #[.nilIface, .iface 107 (.pointer (some t))] w fun e w' => e = .returned (.bool false) ∧ w' = w := by
  go_enter Tryz.func63, Tryz.ntmps63
  go_wp2
  go_ret
  exact ⟨rfl, rfl⟩
set_option maxHeartbeats 4000000 in
/-- errors.As at a Code itself: no Spot -/
theorem as_codeC (c : Int) (t : Addr) (w : World) (hg : HandleE w) (htl : t.block < w.heap.size) :
    Calls Tryz.prog 63 #[.iface 70 (.int .i64 c), .iface 107 (.pointer (some t))] w fun ev w' => ev = .returned (.bool false) ∧ Below w.heap.size w w' := by
  have h6 := @run_callFunc_extern Tryz.prog 116 _ (fun args => ReflectliteValue.unpack (args.getD 0 (.tuple #[]))) Tryz.func116 (by kernel_rfl) (by kernel_rfl) (by kernel_rfl) (by kernel_rfl)
  have h7 := @run_callFunc_extern Tryz.prog 117 _ (ReflectliteValue.methodAny (ReflectliteValue.valueError "reflectlite.Value.Type" 0) (fun t _ _ _ => ReflectliteType.toType t)) Tryz.func117 (by kernel_rfl) (by kernel_rfl) (by kernel_rfl) (by kernel_rfl)
  have h8 := @run_callFunc_extern Tryz.prog 118 _ (ReflectliteValue.method (ReflectliteValue.valueError "reflectlite.Value.IsNil" 0) ReflectliteValue.isNil) Tryz.func118 (by kernel_rfl) (by kernel_rfl) (by kernel_rfl) (by kernel_rfl)
  have h27 := @run_callFunc_extern Tryz.prog 265 _ (ReflectliteType.abiMethod fun t => do pure (.int .u8 (← Rtype.kind t))) Tryz.func265 (by kernel_rfl) (by kernel_rfl) (by kernel_rfl) (by kernel_rfl)
  have h37 := @run_callFunc_extern Tryz.prog 278 _ (ReflectliteType.method ReflectliteType.elem) Tryz.func278 (by kernel_rfl) (by kernel_rfl) (by kernel_rfl) (by kernel_rfl)
  have h38 := @run_callFunc_extern Tryz.prog 279 _ (ReflectliteType.relation "Implements" ReflectliteType.implements_) Tryz.func279 (by kernel_rfl) (by kernel_rfl) (by kernel_rfl) (by kernel_rfl)
  have h10 := @run_callFunc_extern Tryz.prog 158 _ ReflectliteType.typeOf Tryz.func158 (by kernel_rfl) (by kernel_rfl) (by kernel_rfl) (by kernel_rfl)
  have h35 := @run_callFunc_extern Tryz.prog 276 _ (ReflectliteType.relation "AssignableTo" ReflectliteType.assignableTo) Tryz.func276 (by kernel_rfl) (by kernel_rfl) (by kernel_rfl) (by kernel_rfl)
  have tO := RL.typeOfCode
  have mA := RL.methodAssignableTo
  have aC := RL.assignableC
  have f6 := RL.valueOf27
  have f7 := RL.type27
  have mK := RL.methodKind
  have mE := RL.methodElem
  have mI := RL.methodImplements
  have k27 := RL.kind27
  have k25 := RL.kind25
  have e27 := RL.elem27
  have i25 := RL.implements25
  have nA := RL.noAsC
  have nU := RL.noUnwC
  have nUs := RL.noUnwsC
  have n8 := RL.isNil27 ⟨w.heap.size, 0, none⟩ t ((w.alloc (.cells #[.pointer (some t)] 107)).alloc (.cells #[.pointer (some ⟨5, 107, none⟩), .pointer (some ⟨w.heap.size, 0, none⟩), .int .u64 150] 154)) (by simp)
  have hlt := hg.pos
  have hg2 : ((w.alloc (.cells #[.pointer (some t)] 107)).alloc (.cells #[.pointer (some ⟨5, 107, none⟩), .pointer (some ⟨w.heap.size, 0, none⟩), .int .u64 150] 154)).cell? ⟨0, 0, none⟩ = some (.iface 207 (.agg #[.pointer (some ⟨5, 34, none⟩)])) := (hg.alloc _).alloc _
  go_enter Tryz.func63, Tryz.ntmps63
  go_wp2
  refine wp_loop_rounds 1 ?_
  rw [rounds_succ]
  go_wp2
  go_ret
  refine ⟨rfl, ?_⟩
  first
    | exact (((Below.refl _ w).alloc (Nat.le_refl _) _).alloc (by simp) _).alloc (by simp; omega) _
    | exact ((Below.refl _ w).alloc (Nat.le_refl _) _).alloc (by simp) _
/-! Code -/
set_option maxHeartbeats 4000000 in
theorem codeN_c (c : Int) (h1 : 1 ≤ c) (h12 : c ≤ 12) (w : World) : Calls Tryz.prog 34 #[.iface 70 (.int .i64 c)] w fun e w' => e = .returned (.int .i64 c) ∧ w' = w := by
  have l0 := RL.nilC c
  have lC := RL.likeC c
  go_enter Tryz.func34, Tryz.ntmps34
  go_wp2_with fail
  go_loop [3] (fun i => ∃ k : Nat, i = .int .i64 k ∧ 1 ≤ k ∧ (k : Int) ≤ c) (fun i => 12 - (intOf i).toNat)
  case atStart => exact ⟨1, rfl, Nat.le_refl _, h1⟩
  case round =>
    obtain ⟨k, rfl, hk1, hkc⟩ := hrel
    have hk12 : (k : Int) ≤ 12 := by omega
    by_cases e : (k : Int) = c
    · have he : (c == (k : Int)) = true := by rw [e]; exact beq_self_eq_true c
      have lk := lC k
      rw [he] at lk
      go_wp2_with fail
      go_ret
      first
        | exact ⟨rfl, rfl⟩
        | exact ⟨ret_i e, rfl⟩
    · have he : (c == (k : Int)) = false := by simpa using Ne.symm e
      have lk := lC k
      rw [he] at lk
      go_wp2_with fail
      exact ⟨⟨k + 1, by go_num, by omega, by omega⟩, by simp [intOf]; omega⟩
theorem codeNil_c (w : World) : Calls Tryz.prog 34 #[.nilIface] w fun e w' => e = .returned (.int .i64 0) ∧ w' = w := by
  go_enter Tryz.func34, Tryz.ntmps34
  go_wp2_with fail
  go_ret
  exact ⟨rfl, rfl⟩
/-- an error's number and place -/
def numE : Option (Int × Option Nat) → Int × Int
  | none => (0, -1)
  | some (c, none) => (c, -1)
  | some (c, some i) => (c, i)
theorem errOf_c (v : Value) (r : Option (Int × Option Nat)) (w : World) (hg : HandleE w) (h : ErrAt w v r) (hr : ∀ c p, r = some (c, p) → 1 ≤ c ∧ c ≤ 12) :
    Calls Tryz.prog 24 #[v] w fun e w' => e = .returned (.tuple #[.int .i64 (numE r).1, .int .i64 (numE r).2]) ∧ Below w.heap.size w w' := by
  match r, h, hr with
  | none, h, _ =>
    obtain rfl := h
    show Calls Tryz.prog 24 #[.nilIface] w fun e w' => e = .returned (.tuple #[.int .i64 0, .int .i64 (-1)]) ∧ Below w.heap.size w w'
    go_enter Tryz.func24, Tryz.ntmps24
    go_wp2_with (first
      | (go_at_call 63; refine (as_nilC _ _).mono ?_; rintro e w' ⟨rfl, rfl⟩)
      | (go_at_call 34; refine (codeNil_c _).mono ?_; rintro e w' ⟨rfl, rfl⟩))
    refine bodyPost_ret (by simp [results, Tryz.results24, go_sem]; try rfl) rfl ?_
    exact ⟨rfl, (Below.refl _ _).alloc (Nat.le_refl _) _⟩
  | some (c, none), h, hr =>
    obtain rfl := h
    obtain ⟨h1, h12⟩ := hr c none rfl
    show Calls Tryz.prog 24 #[.iface 70 (.int .i64 c)] w fun e w' => e = .returned (.tuple #[.int .i64 c, .int .i64 (-1)]) ∧ Below w.heap.size w w'
    have HG := Lib.hid hg
    have HGA := Lib.hid (fun o => hg.alloc o)
    clear hg hr
    go_enter Tryz.func24, Tryz.ntmps24
    go_wp2_with (first
      | (go_at_call 63; refine (as_codeC c _ _ (HGA.out _) (by simp)).mono ?_; rintro e w' ⟨rfl, hb⟩; have HB := Lib.hid (((Below.refl w.heap.size w).alloc (Nat.le_refl _) _).trans (hb.mono (by simp))); clear hb)
      | (go_at_call 34; refine (codeN_c c h1 h12 _).mono ?_; rintro e w' ⟨rfl, rfl⟩))
    refine bodyPost_ret (by simp [results, Tryz.results24, go_sem]; try rfl) rfl ?_
    exact ⟨rfl, HB.out⟩
  | some (c, some i), h, hr =>
    obtain ⟨b, rfl, hb⟩ := h
    obtain ⟨h1, h12⟩ := hr c (some i) rfl
    show Calls Tryz.prog 24 #[.iface 93 (.pointer (some ⟨b, 0, none⟩))] w fun e w' => e = .returned (.tuple #[.int .i64 c, .int .i64 ((i : Nat) : Int)]) ∧ Below w.heap.size w w'
    have HG := Lib.hid hg
    have HB := Lib.hid hb
    clear hg hb hr
    go_enter Tryz.func24, Tryz.ntmps24
    go_upto_region 5 with (go_at_call 63; refine (as_spot b w HG.out).mono ?_; rintro e W ⟨rfl, hb, hc⟩)
    have h2 := HB.out.under hb HB.out.lt
    obtain ⟨h3, h4⟩ := cellsT2 h2
    have hl3 := h2.lt
    refine wp_region_until [(4, fun w' => w'.cell? ⟨w.heap.size, 0, none⟩ = some (.pointer (some ⟨b, 0, none⟩)) ∧ w'.cell? ⟨b, 0, none⟩ = some (.int .i64 ((i : Nat) : Int)) ∧ w'.cell? ⟨b, 1, none⟩ = some (.iface 70 (.int .i64 c))), (10, fun w' => w'.cell? ⟨w.heap.size, 0, none⟩ = some (.pointer (some ⟨b, 0, none⟩)) ∧ w'.cell? ⟨b, 0, none⟩ = some (.int .i64 ((i : Nat) : Int)) ∧ w'.cell? ⟨b, 1, none⟩ = some (.iface 70 (.int .i64 c)))] (by kernel_rfl) (Until.cons (fun _ => ⟨hc, h3, h4⟩) (Until.cons (fun _ => ⟨hc, h3, h4⟩) Until.nil)) (fun hU => ?_)
    refine AnyU.loadc (i := 0) (d := 4) [1, 2, 3, 4] (Si := fun w' => w'.cell? ⟨w.heap.size, 0, none⟩ = some (.pointer (some ⟨b, 0, none⟩)) ∧ w'.cell? ⟨b, 0, none⟩ = some (.int .i64 ((i : Nat) : Int)) ∧ w'.cell? ⟨b, 1, none⟩ = some (.iface 70 (.int .i64 c))) (v := ?_) rfl (by kernel_rfl) (by kernel_rfl) (by kernel_rfl) (fun _ _ _ h => h) (by kernel_rfl) (by assumption) (by kernel_rfl) rfl (by simp) (by rfl) ?_ (fun hV => ?_)
    rotate_left 1
    · (intro wq hq; obtain ⟨u, -, -⟩ := hq; go_simp; try with_reducible rfl)
    clear hU
    have hU := hV
    clear hV
    try simp only [Act.put, List.getElem_toArray, List.getElem_cons_zero, List.getElem_cons_succ, List.setIfInBounds_toArray, List.set_cons_zero, List.set_cons_succ]
    refine AnyU.take (i := 1) (v := ?_) rfl (by kernel_rfl) (by kernel_rfl) (by kernel_rfl) (fun _ _ _ h => h) (by kernel_rfl) (by assumption) (by rfl) ?_ (fun hV => ?_)
    rotate_left 1
    · (intro wq; go_simp; try with_reducible rfl)
    clear hU
    have hU := hV
    clear hV
    try simp only [Act.put, List.getElem_toArray, List.getElem_cons_zero, List.getElem_cons_succ, List.setIfInBounds_toArray, List.set_cons_zero, List.set_cons_succ]
    refine AnyU.take (i := 2) (v := ?_) rfl (by kernel_rfl) (by kernel_rfl) (by kernel_rfl) (fun _ _ _ h => h) (by kernel_rfl) (by assumption) (by rfl) ?_ (fun hV => ?_)
    rotate_left 1
    · (intro wq; go_simp; try with_reducible rfl)
    clear hU
    have hU := hV
    clear hV
    try simp only [Act.put, List.getElem_toArray, List.getElem_cons_zero, List.getElem_cons_succ, List.setIfInBounds_toArray, List.set_cons_zero, List.set_cons_succ]
    refine AnyU.loadc (i := 3) (d := 4) [4] (Si := fun w' => w'.cell? ⟨w.heap.size, 0, none⟩ = some (.pointer (some ⟨b, 0, none⟩)) ∧ w'.cell? ⟨b, 0, none⟩ = some (.int .i64 ((i : Nat) : Int)) ∧ w'.cell? ⟨b, 1, none⟩ = some (.iface 70 (.int .i64 c))) (v := ?_) rfl (by kernel_rfl) (by kernel_rfl) (by kernel_rfl) (fun _ _ _ h => h) (by kernel_rfl) (by assumption) (by kernel_rfl) rfl (by simp) (by rfl) ?_ (fun hV => ?_)
    rotate_left 1
    · (intro wq hq; obtain ⟨-, -, u⟩ := hq; go_simp; try with_reducible rfl)
    clear hU
    have hU := hV
    clear hV
    try simp only [Act.put, List.getElem_toArray, List.getElem_cons_zero, List.getElem_cons_succ, List.setIfInBounds_toArray, List.set_cons_zero, List.set_cons_succ]
    refine AnyU.loadc (i := 5) (d := 10) [6, 7, 8, 10] (Si := fun w' => w'.cell? ⟨w.heap.size, 0, none⟩ = some (.pointer (some ⟨b, 0, none⟩)) ∧ w'.cell? ⟨b, 0, none⟩ = some (.int .i64 ((i : Nat) : Int)) ∧ w'.cell? ⟨b, 1, none⟩ = some (.iface 70 (.int .i64 c))) (v := ?_) rfl (by kernel_rfl) (by kernel_rfl) (by kernel_rfl) (fun _ _ _ h => h) (by kernel_rfl) (by assumption) (by kernel_rfl) rfl (by simp) (by rfl) ?_ (fun hV => ?_)
    rotate_left 1
    · (intro wq hq; obtain ⟨u, -, -⟩ := hq; go_simp; try with_reducible rfl)
    clear hU
    have hU := hV
    clear hV
    try simp only [Act.put, List.getElem_toArray, List.getElem_cons_zero, List.getElem_cons_succ, List.setIfInBounds_toArray, List.set_cons_zero, List.set_cons_succ]
    refine AnyU.take (i := 6) (v := ?_) rfl (by kernel_rfl) (by kernel_rfl) (by kernel_rfl) (fun _ _ _ h => h) (by kernel_rfl) (by assumption) (by rfl) ?_ (fun hV => ?_)
    rotate_left 1
    · (intro wq; go_simp; try with_reducible rfl)
    clear hU
    have hU := hV
    clear hV
    try simp only [Act.put, List.getElem_toArray, List.getElem_cons_zero, List.getElem_cons_succ, List.setIfInBounds_toArray, List.set_cons_zero, List.set_cons_succ]
    refine AnyU.take (i := 7) (v := ?_) rfl (by kernel_rfl) (by kernel_rfl) (by kernel_rfl) (fun _ _ _ h => h) (by kernel_rfl) (by assumption) (by rfl) ?_ (fun hV => ?_)
    rotate_left 1
    · (intro wq; go_simp; try with_reducible rfl)
    clear hU
    have hU := hV
    clear hV
    try simp only [Act.put, List.getElem_toArray, List.getElem_cons_zero, List.getElem_cons_succ, List.setIfInBounds_toArray, List.set_cons_zero, List.set_cons_succ]
    refine AnyU.loadc (i := 8) (d := 10) [10] (Si := fun w' => w'.cell? ⟨w.heap.size, 0, none⟩ = some (.pointer (some ⟨b, 0, none⟩)) ∧ w'.cell? ⟨b, 0, none⟩ = some (.int .i64 ((i : Nat) : Int)) ∧ w'.cell? ⟨b, 1, none⟩ = some (.iface 70 (.int .i64 c))) (v := ?_) rfl (by kernel_rfl) (by kernel_rfl) (by kernel_rfl) (fun _ _ _ h => h) (by kernel_rfl) (by assumption) (by kernel_rfl) rfl (by simp) (by rfl) ?_ (fun hV => ?_)
    rotate_left 1
    · (intro wq hq; obtain ⟨-, u, -⟩ := hq; go_simp; try with_reducible rfl)
    clear hU
    have hU := hV
    clear hV
    try simp only [Act.put, List.getElem_toArray, List.getElem_cons_zero, List.getElem_cons_succ, List.setIfInBounds_toArray, List.set_cons_zero, List.set_cons_succ]
    refine AnyU.ready1 (i := 4) (by kernel_rfl) (AnyU.one rfl fun K hK => ?_)
    go_simp
    go_at_call 34
    refine (codeN_c c h1 h12 _).mono ?_
    rintro e w2 ⟨rfl, hw⟩
    obtain rfl := hw.symm
    refine hK.out _ _ (Until.cons (fun h => absurd h (by decide)) (Until.cons (fun _ => ⟨hc, h3, h4⟩) Until.nil)) (fun hV => ?_)
    clear hK K
    clear hU
    have hU := hV
    clear hV
    try simp only [Act.put, List.getElem_toArray, List.getElem_cons_zero, List.getElem_cons_succ, List.setIfInBounds_toArray, List.set_cons_zero, List.set_cons_succ]
    refine AnyU.take (i := 9) (v := ?_) rfl (by kernel_rfl) (by kernel_rfl) (by kernel_rfl) (fun _ _ _ h => h) (by kernel_rfl) (by assumption) (by rfl) ?_ (fun hV => ?_)
    rotate_left 1
    · (intro wq; go_simp; try with_reducible rfl)
    clear hU
    have hU := hV
    clear hV
    try simp only [Act.put, List.getElem_toArray, List.getElem_cons_zero, List.getElem_cons_succ, List.setIfInBounds_toArray, List.set_cons_zero, List.set_cons_succ]
    refine AnyU.ready1 (i := 10) (by kernel_rfl) (AnyU.one rfl fun K hK => ?_)
    go_simp
    refine hK.out _ _ (Until.offT (by kernel_rfl)) (fun hV => ?_)
    clear hK K
    clear hU
    have hU := hV
    clear hV
    try simp only [Act.put, List.getElem_toArray, List.getElem_cons_zero, List.getElem_cons_succ, List.setIfInBounds_toArray, List.set_cons_zero, List.set_cons_succ]
    refine AnyU.done (by kernel_rfl) ?_
    go_wp2_with fail
    refine bodyPost_ret (by simp [results, Tryz.results24, go_sem]; try rfl) rfl ?_
    exact ⟨rfl, hb.drew⟩
theorem told_c (v : Value) (r : Option (Int × Option Nat)) (w : World) (hg : HandleE w) (h : ErrAt w v r) (hr : ∀ c p, r = some (c, p) → 1 ≤ c ∧ c ≤ 12) :
    Calls Tryz.prog 17 #[v, .int .i64 (numE r).1, .int .i64 (numE r).2] w fun e w' => e = .returned (.bool true) ∧ Below w.heap.size w w' := by
  match r, h, hr with
  | none, h, _ =>
    obtain rfl := h
    show Calls Tryz.prog 17 #[.nilIface, .int .i64 0, .int .i64 (-1)] w _
    go_enter Tryz.func17, Tryz.ntmps17
    go_wp2_with (go_at_call 34; refine (codeNil_c _).mono ?_; rintro e w' ⟨rfl, rfl⟩)
    go_ret
    exact ⟨rfl, Below.refl _ _⟩
  | some (c, none), h, hr =>
    obtain rfl := h
    obtain ⟨h1, h12⟩ := hr c none rfl
    show Calls Tryz.prog 17 #[.iface 70 (.int .i64 c), .int .i64 c, .int .i64 (-1)] w _
    go_enter Tryz.func17, Tryz.ntmps17
    go_wp2_with (go_at_call 34; refine (codeN_c c h1 h12 _).mono ?_; rintro e w' ⟨rfl, rfl⟩)
    go_ret
    first
      | exact ⟨rfl, Below.refl _ _⟩
      | exact ⟨ret_b (by simp), Below.refl _ _⟩
  | some (c, some i), h, hr =>
    obtain ⟨b, rfl, hb⟩ := h
    show Calls Tryz.prog 17 #[.iface 93 (.pointer (some ⟨b, 0, none⟩)), .int .i64 c, .int .i64 ((i : Nat) : Int)] w _
    have hk : ¬ ((i : Nat) : Int) < 0 := by omega
    have HG := Lib.hid hg
    have HB := Lib.hid hb
    clear hg hb hr
    go_enter Tryz.func17, Tryz.ntmps17
    go_wp2_with (go_at_call 46; refine (isC_c b _ c _ HG.out HB.out).mono ?_; rintro e w' ⟨rfl, hb⟩)
    go_ret
    exact ⟨rfl, hb⟩
end Go.Proofs.YtjeldfipipkfiaaGreatDoor
