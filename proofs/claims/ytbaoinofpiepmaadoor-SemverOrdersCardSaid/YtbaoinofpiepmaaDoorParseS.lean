/- semver.Parse of the document's example is refused. -/
import Derived.Test.YtbaoinofpiepmaaDoorSplitS
import Derived.Test.YtbaoinofpiepmaaDoorSem2
import Derived.Deep.RegionHeld3
namespace Go.Proofs.YtbaoinofpiepmaaDoor
open Go.RowKit
set_option linter.unusedSimpArgs false
set_option linter.unusedVariables false
theorem number_02 (w : World) : Calls Tryd.prog 43 #[.string { data := #[48, 50] }] w fun e w' => e = .returned (.int .i64 (-1)) ∧ w = w' := by
  have h0 : ((({ data := #[48, 50] } : ByteArray)[0]'(by decide)).toNat : Int) = 48 := by decide
  go_enter Tryd.func43, Tryd.ntmps43
  go_wp2
  go_ret
  exact ⟨rfl, rfl⟩
theorem number_1 (w : World) : Calls Tryd.prog 43 #[.string { data := #[49] }] w fun e w' => e = .returned (.int .i64 1) ∧ w = w' := by
  have h0 : ((({ data := #[49] } : ByteArray)[0]'(by decide)).toNat : Int) = 49 := by decide
  go_enter Tryd.func43, Tryd.ntmps43
  go_wp2_with fail
  go_loopw [3, 4, 24] (fun n _ i wr => w = wr ∧ ((i = .int .i64 0 ∧ n = .int .i64 0) ∨ (i = .int .i64 1 ∧ n = .int .i64 1))) (fun _ _ i _ => 1 - (intOf i).toNat)
  case atStart => exact ⟨rfl, .inl ⟨rfl, rfl⟩⟩
  case round =>
    obtain ⟨rfl, ⟨rfl, rfl⟩ | ⟨rfl, rfl⟩⟩ := hrel
    · go_wp2
      first
        | exact ⟨⟨rfl, .inr ⟨rfl, rfl⟩⟩, by simp [intOf]⟩
        | simp [intOf]
    · go_wp2
      go_ret
      exact ⟨rfl, rfl⟩
theorem number_0 (w : World) : Calls Tryd.prog 43 #[.string { data := #[48] }] w fun e w' => e = .returned (.int .i64 0) ∧ w = w' := by
  have h0 : ((({ data := #[48] } : ByteArray)[0]'(by decide)).toNat : Int) = 48 := by decide
  go_enter Tryd.func43, Tryd.ntmps43
  go_wp2_with fail
  go_loopw [3, 4, 24] (fun n _ i wr => w = wr ∧ ((i = .int .i64 0 ∧ n = .int .i64 0) ∨ (i = .int .i64 1 ∧ n = .int .i64 0))) (fun _ _ i _ => 1 - (intOf i).toNat)
  case atStart => exact ⟨rfl, .inl ⟨rfl, rfl⟩⟩
  case round =>
    obtain ⟨rfl, ⟨rfl, rfl⟩ | ⟨rfl, rfl⟩⟩ := hrel
    · go_wp2
      first
        | exact ⟨⟨rfl, .inr ⟨rfl, rfl⟩⟩, by simp [intOf]⟩
        | simp [intOf]
    · go_wp2
      go_ret
      exact ⟨rfl, rfl⟩
def numX (s : ByteArray) : Int := if s = { data := #[49] } then 1 else if s = { data := #[48, 50] } then -1 else 0
theorem num_1 : numX { data := #[49] } = 1 := by decide
theorem num_02 : numX { data := #[48, 50] } = -1 := by decide
theorem num_0 : numX { data := #[48] } = 0 := by decide
theorem number_x (s : ByteArray) (h : s = { data := #[49] } ∨ s = { data := #[48, 50] } ∨ s = { data := #[48] }) (w : World) : Calls Tryd.prog 43 #[.string s] w fun e w' => e = .returned (.int .i64 (numX s)) ∧ w = w' := by
  rcases h with rfl | rfl | rfl
  · rw [num_1]; exact number_1 w
  · rw [num_02]; exact number_02 w
  · rw [num_0]; exact number_0 w
theorem example_count : Lib.countB { data := #[49, 46, 48, 50, 46, 48] } { data := #[46] } = 2 := by decide +kernel
theorem example_split : Lib.splitB { data := #[46] } 0 2 { data := #[49, 46, 48, 50, 46, 48] } = [{ data := #[49] }, { data := #[48, 50] }, { data := #[48] }] := by decide +kernel
set_option maxRecDepth 100000 in
set_option maxHeartbeats 4000000 in
theorem parse_ex (w : World) (hm : MaxW w) : Calls Tryd.prog 25 #[.string { data := #[49, 46, 48, 50, 46, 48] }] w fun e w' => e = .returned (.tuple #[.agg (ver 0 0 0), .iface 28 (.int .i64 2)]) ∧ Below w.heap.size w w' := by
  have HM := Lib.hid hm
  clear hm
  go_enter Tryd.func25, Tryd.ntmps25
  go_wp2_with fail
  have hz := Blk.new w #[.int .i64 0, .int .i64 0, .int .i64 0] 35
  have hb0 : Below w.heap.size w (w.alloc (.cells #[.int .i64 0, .int .i64 0, .int .i64 0] 35)) := (Below.refl _ w).alloc (Nat.le_refl _) _
  have hms := HM.out.below hb0
  have hs1 : (w.alloc (.cells #[.int .i64 0, .int .i64 0, .int .i64 0] 35)).heap.size = w.heap.size + 1 := by simp
  generalize (w.alloc (.cells #[.int .i64 0, .int .i64 0, .int .i64 0] 35)) = W at hz hb0 hms hs1 ⊢
  have hsp := split_c { data := #[49, 46, 48, 50, 46, 48] } { data := #[46] } W (by decide) (by decide) hms
  rw [example_count, example_split] at hsp
  refine hsp.mono ?_
  rintro e w1 ⟨rfl, rfl⟩
  have hc := Blk.new W #[.string { data := #[49] }, .string { data := #[48, 50] }, .string { data := #[48] }] 9
  have hzz := hz.alloc (.cells #[.string { data := #[49] }, .string { data := #[48, 50] }, .string { data := #[48] }] 9)
  have hb1 : Below w.heap.size w (W.alloc (.cells #[.string { data := #[49] }, .string { data := #[48, 50] }, .string { data := #[48] }] 9)) := hb0.alloc (by omega) _
  have hs2 : (W.alloc (.cells #[.string { data := #[49] }, .string { data := #[48, 50] }, .string { data := #[48] }] 9)).heap.size = w.heap.size + 1 + 1 := by simp [hs1]
  rw [hs1] at hc ⊢
  simp only [List.map_cons, List.map_nil]
  generalize (W.alloc (.cells #[.string { data := #[49] }, .string { data := #[48, 50] }, .string { data := #[48] }] 9)) = W2 at hc hzz hb1 hs2 ⊢
  have HC := Lib.hid hc
  have HZ := Lib.hid hzz
  have HB := Lib.hid hb1
  have HS2 := Lib.hid hs2
  clear hsp hz hb0 hms hs1 hc hzz hb1 hs2
  go_upto_region 4 with fail
  go_region_held3 (fun w' => w'.cell? ⟨w.heap.size + 1, 0, none⟩ = some (.string { data := #[49] }) ∧ w'.cell? ⟨w.heap.size + 1, 1, none⟩ = some (.string { data := #[48, 50] }) ∧ w'.cell? ⟨w.heap.size + 1, 2, none⟩ = some (.string { data := #[48] }) ∧ True)
    (first | exact ⟨HC.out.drew.cell 0, HC.out.drew.cell 1, HC.out.drew.cell 2, trivial⟩ | exact ⟨(HC.out.alloc _).drew.cell 0, (HC.out.alloc _).drew.cell 1, (HC.out.alloc _).drew.cell 2, trivial⟩ | exact ⟨(HC.out.drew.alloc _).cell 0, (HC.out.drew.alloc _).cell 1, (HC.out.drew.alloc _).cell 2, trivial⟩ | (go_keep))
    (first | (go_at_call 43; refine (number_x _ (by first | exact .inl rfl | exact .inr (.inl rfl) | exact .inr (.inr rfl)) _).mono ?_; rintro e wn ⟨rfl, rfl⟩; first | rw [num_1] | rw [num_02] | rw [num_0]))
  all_goals
    have hn := (Blk.new W2 #[.int .i64 1, .int .i64 (-1), .int .i64 0] 35).drew
    have hz := (HZ.out.alloc (.cells #[.int .i64 1, .int .i64 (-1), .int .i64 0] 35)).drew
    have hbb := (HB.out.alloc (by have := HS2.out; omega) (.cells #[.int .i64 1, .int .i64 (-1), .int .i64 0] 35)).drew
    generalize (W2.alloc (.cells #[.int .i64 1, .int .i64 (-1), .int .i64 0] 35)).drew = Y at hn hz hbb ⊢
    generalize W2.heap.size = bn at hn ⊢
    obtain ⟨n0, n1, n2⟩ := cells3 hn
    have ln := hn.lt
    go_wp2_with fail
    refine (semMay_c 1 (-1) 0 Y).mono ?_
    rintro e y1 ⟨rfl, hb1⟩
    rw [show mayB 1 (-1) 0 = false from by decide]
    have hz1 := hz.under hb1 hz.lt
    have hbz := acc0 hbb hbb.size hb1
    obtain ⟨q0, q1, q2⟩ := cells3 hz1
    have f0 := hz1.free 0
    have f1 := hz1.free 1
    have f2 := hz1.free 2
    have lz := hz1.lt
    clear n0 n1 n2 ln hn hz hbb hb1
    go_wp2_with fail
    have hp := put3_full (.int .i64 0) (.int .i64 0) (.int .i64 0) hz1
    have hbp := put3_bel (.int .i64 0) (.int .i64 0) (.int .i64 0) hbz (Nat.le_refl _)
    generalize (((y1.setCell ⟨w.heap.size, 0, none⟩ (.int .i64 0)).setCell ⟨w.heap.size, 1, none⟩ (.int .i64 0)).setCell ⟨w.heap.size, 2, none⟩ (.int .i64 0)) = Wz at hp hbp ⊢
    obtain ⟨r0, r1, r2⟩ := cells3 hp
    refine bodyPost_ret (by simp [results, Tryd.results25, go_sem, r0, r1, r2]; try rfl) rfl ?_
    exact ⟨rfl, hbp⟩
end Go.Proofs.YtbaoinofpiepmaaDoor
