/- merlonref14.Same at two manifests of the same content: true. -/
import Derived.Test.YtlpgkldialmofaaGreatDoorMayR
import Derived.Laws.StructEq
import Derived.BigQuiet
namespace Go.Proofs.YtlpgkldialmofaaGreatDoor
open Go.RowKit
set_option linter.unusedSimpArgs false
set_option linter.unusedVariables false
theorem verEq (a b c : Int) (n : Nat) (w : World) : (Op.equalIn (n + 2) 24 (.agg #[.int .i64 a, .int .i64 b, .int .i64 c]) (.agg #[.int .i64 a, .int .i64 b, .int .i64 c])).run Tryz.prog w = .ok true w := by
  have hS : Tryz.prog.underlying 24 = some (.struct (Tryz.prog.fieldsOf 24)) := by kernel_rfl
  have hp : Tryz.prog.stoodInHeld 24 = false := by kernel_rfl
  rw [run_equalIn_agg w (n + 1) 24 _ _ hS hp]
  simp only [Program.fieldsOf, Tryz.underlying24]
  go_simp
  try simp
theorem rngEq (a b c d e f : Int) (n : Nat) (w : World) : (Op.equalIn (n + 3) 39 (.agg #[.int .i64 a, .int .i64 b, .int .i64 c, .int .i64 d, .int .i64 e, .int .i64 f]) (.agg #[.int .i64 a, .int .i64 b, .int .i64 c, .int .i64 d, .int .i64 e, .int .i64 f])).run Tryz.prog w = .ok true w := by
  have hS : Tryz.prog.underlying 39 = some (.struct (Tryz.prog.fieldsOf 39)) := by kernel_rfl
  have hp : Tryz.prog.stoodInHeld 39 = false := by kernel_rfl
  have v1 := fun w => verEq a b c n w
  have v2 := fun w => verEq d e f n w
  rw [run_equalIn_agg w (n + 2) 39 _ _ hS hp]
  simp only [Program.fieldsOf, Tryz.underlying39]
  go_simp
  try simp
theorem depEq (s : ByteArray) (a b c d e f : Int) (n : Nat) (w : World) : (Op.equalIn (n + 4) 41 (.agg #[.string s, .int .i64 a, .int .i64 b, .int .i64 c, .int .i64 d, .int .i64 e, .int .i64 f]) (.agg #[.string s, .int .i64 a, .int .i64 b, .int .i64 c, .int .i64 d, .int .i64 e, .int .i64 f])).run Tryz.prog w = .ok true w := by
  have hS : Tryz.prog.underlying 41 = some (.struct (Tryz.prog.fieldsOf 41)) := by kernel_rfl
  have hp : Tryz.prog.stoodInHeld 41 = false := by kernel_rfl
  have v1 := fun w => rngEq a b c d e f n w
  rw [run_equalIn_agg w (n + 3) 41 _ _ hS hp]
  simp only [Program.fieldsOf, Tryz.underlying41]
  go_simp
  try simp
theorem depNeq (s : ByteArray) (a b c d e f : Int) (w : World) : (binOp .neq 41 (.agg #[.string s, .int .i64 a, .int .i64 b, .int .i64 c, .int .i64 d, .int .i64 e, .int .i64 f]) (.agg #[.string s, .int .i64 a, .int .i64 b, .int .i64 c, .int .i64 d, .int .i64 e, .int .i64 f])).run Tryz.prog w = .ok (.bool false) w := by
  rw [run_neq_struct, show (10000 : Nat) = 9996 + 4 from rfl, depEq]; rfl
theorem verNeq (a b c : Int) (w : World) : (binOp .neq 24 (.agg #[.int .i64 a, .int .i64 b, .int .i64 c]) (.agg #[.int .i64 a, .int .i64 b, .int .i64 c])).run Tryz.prog w = .ok (.bool false) w := by
  rw [run_neq_struct, show (10000 : Nat) = 9998 + 2 from rfl, verEq]; rfl
set_option maxRecDepth 100000 in
set_option maxHeartbeats 8000000 in
theorem manSame_c (p : ByteArray) (v1 v2 v3 : Int) (A A' : Option Addr) (cap cap' : Nat) (ds : List Dp) (w : World) (hd : DepsAt w A ds) (hd' : DepsAt w A' ds) (hl : ds.length ≤ 1000000) :
    Calls Tryz.prog 6 #[.agg (manV p v1 v2 v3 A ds.length cap), .agg (manV p v1 v2 v3 A' ds.length cap')] w fun e w' => e = .returned (.bool true) ∧ Below w.heap.size w w' := by
  have HD := Lib.hid hd
  have HD' := Lib.hid hd'
  have dn := depNeq
  have vn := verNeq
  clear hd hd'
  go_enter Tryz.func6, Tryz.ntmps6
  simp only [manV]
  go_upto_region 1 with fail
  have e1 : (w.alloc (.cells #[.string p, .int .i64 v1, .int .i64 v2, .int .i64 v3, .slice A ds.length cap] 27)).heap.size = w.heap.size + 1 := by simp
  have x0 := Blk.new w #[.string p, .int .i64 v1, .int .i64 v2, .int .i64 v3, .slice A ds.length cap] 27
  have x1 := Blk.new (w.alloc (.cells #[.string p, .int .i64 v1, .int .i64 v2, .int .i64 v3, .slice A ds.length cap] 27)) #[.string p, .int .i64 v1, .int .i64 v2, .int .i64 v3, .slice A' ds.length cap'] 27
  have x2 := x0.alloc (.cells #[.string p, .int .i64 v1, .int .i64 v2, .int .i64 v3, .slice A' ds.length cap'] 27)
  have xb := ((Below.refl w.heap.size w).alloc (Nat.le_refl _) (.cells #[.string p, .int .i64 v1, .int .i64 v2, .int .i64 v3, .slice A ds.length cap] 27)).alloc (by simp) (.cells #[.string p, .int .i64 v1, .int .i64 v2, .int .i64 v3, .slice A' ds.length cap'] 27)
  rw [e1] at x1
  generalize ((w.alloc (.cells #[.string p, .int .i64 v1, .int .i64 v2, .int .i64 v3, .slice A ds.length cap] 27)).alloc (.cells #[.string p, .int .i64 v1, .int .i64 v2, .int .i64 v3, .slice A' ds.length cap'] 27)) = W at x1 x2 xb ⊢
  have X1 := Lib.hid x1
  have X2 := Lib.hid x2
  have XB := Lib.hid xb
  have D := Lib.hid (HD.out.under xb (Nat.le_refl _))
  have D' := Lib.hid (HD'.out.under xb (Nat.le_refl _))
  obtain ⟨a0, a1, a2, a3, a4⟩ := cells5 X2.out
  obtain ⟨b0, b1, b2, b3, b4⟩ := cells5 X1.out
  have la := X2.out.lt
  have lb := X1.out.lt
  clear x0 x1 x2 xb e1 HD HD'
  go_wp2_with fail
  go_loopw [5] (fun i wr => ∃ k : Nat, i = .int .i64 k ∧ k ≤ ds.length ∧ Below W.heap.size W wr) (fun i _ => ds.length - (intOf i).toNat)
  case atStart => exact ⟨0, rfl, Nat.zero_le _, Below.refl _ _⟩
  case round =>
    obtain ⟨k, rfl, hk, hbel⟩ := hrel
    have HB := Lib.hid hbel
    clear a0 a1 a2 a3 a4 b0 b1 b2 b3 b4 la lb
    have Y1 := Lib.hid (X1.out.under hbel X1.out.lt)
    have Y2 := Lib.hid (X2.out.under hbel X2.out.lt)
    obtain ⟨a0, a1, a2, a3, a4⟩ := cells5 Y2.out
    obtain ⟨b0, b1, b2, b3, b4⟩ := cells5 Y1.out
    have la := Y2.out.lt
    have lb := Y1.out.lt
    clear hbel
    by_cases hlt : k < ds.length
    · have hltI : (k : Int) < (ds.length : Int) := by omega
      obtain ⟨b, o, rfl, hbl, hc⟩ := D.out.resolve_left (fun e => by rw [e] at hlt; simp at hlt)
      obtain ⟨b', o', rfl, hbl', hc'⟩ := D'.out.resolve_left (fun e => by rw [e] at hlt; simp at hlt)
      have g := fun j hj => (HB.out.cell (p := ⟨b, _, none⟩) hbl).trans (hc k hlt j hj)
      have g' := fun j hj => (HB.out.cell (p := ⟨b', _, none⟩) hbl').trans (hc' k hlt j hj)
      have g0 := g 0 (by decide); have g1 := g 1 (by decide); have g2 := g 2 (by decide); have g3 := g 3 (by decide); have g4 := g 4 (by decide); have g5 := g 5 (by decide); have g6 := g 6 (by decide)
      have q0 := g' 0 (by decide); have q1 := g' 1 (by decide); have q2 := g' 2 (by decide); have q3 := g' 3 (by decide); have q4 := g' 4 (by decide); have q5 := g' 5 (by decide); have q6 := g' 6 (by decide)
      simp [depV] at g0 g1 g2 g3 g4 g5 g6 q0 q1 q2 q3 q4 q5 q6
      clear g g' hc hc'
      generalize ds[k] = d at *
      obtain ⟨s, ⟨r1, r2, r3⟩, ⟨r4, r5, r6⟩⟩ := d
      simp only at g0 g1 g2 g3 g4 g5 g6 q0 q1 q2 q3 q4 q5 q6
      go_wp2_with fail
      go_quiet (fail)
      go_wp2_with fail
      exact ⟨⟨k + 1, by go_num, by omega, below_drewN HB.out _⟩, by simp [intOf]; omega⟩
    · have hltI : ¬ (k : Int) < (ds.length : Int) := by omega
      go_wp2_with fail
      go_ret
      exact ⟨rfl, XB.out.trans (HB.out.mono XB.out.size)⟩
end Go.Proofs.YtlpgkldialmofaaGreatDoor
