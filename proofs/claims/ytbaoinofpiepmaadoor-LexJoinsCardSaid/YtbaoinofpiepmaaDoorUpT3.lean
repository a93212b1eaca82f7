/- merlonlaw03.up: the document's example, true. -/
import Derived.Test.YtbaoinofpiepmaaDoorSameT
import Derived.Test.YtbaoinofpiepmaaDoorIsC
namespace Go.Proofs.YtbaoinofpiepmaaDoor
open Go.RowKit
set_option linter.unusedSimpArgs false
set_option linter.unusedVariables false
theorem ex1 : scanAll ⟨#[97, 45, 62, 66, 49]⟩ = ([⟨1, 0, ⟨#[97]⟩⟩, ⟨4, 1, ⟨#[45, 62]⟩⟩, ⟨2, 3, ⟨#[66, 49]⟩⟩], none) := by kernel_rfl
theorem ex2 : scanAll ⟨#[97, 45]⟩ = ([⟨1, 0, ⟨#[97]⟩⟩], some 1) := by kernel_rfl
def HandleAt (w : World) : Prop := w.cell? ⟨0, 0, none⟩ = some (.iface 90 (.agg #[.pointer (some ⟨4, 25, none⟩)]))
theorem HandleAt.under {w w' : World} (h : HandleAt w) (hb : Below w.heap.size w w') : HandleAt w' := by
  unfold HandleAt
  rw [hb.cell (p := ⟨0, 0, none⟩) (cell_lt h)]
  exact h
set_option maxRecDepth 100000 in
set_option maxHeartbeats 4000000 in
theorem up_c (w : World) (hg : HandleAt w) : Calls Tryd.prog 6 #[] w fun e w' => e = .returned (.bool true) ∧ Below w.heap.size w w' := by
  have tq := tok_eql
  go_enter Tryd.func6, Tryd.ntmps6
  go_wp2_with fail
  refine (tokens_c _ _ (by decide)).mono ?_
  rintro e w1 ⟨hb1, hans⟩
  rcases hans with ⟨ts, sv, hs, hl, rfl, hrow⟩ | ⟨ts, k, b, hs, -⟩
  rotate_left
  · rw [ex1] at hs; injection hs with h1 h2; cases h2
  rw [ex1] at hs
  injection hs with h1 h2
  subst h1
  obtain ⟨p, cap, rfl, hc⟩ := TokAt.own hrow
  obtain ⟨b, o, rfl, g⟩ := hc (by decide)
  obtain ⟨c1, c2, c3⟩ := g 1 (by decide)
  obtain ⟨d1, d2, d3⟩ := g 2 (by decide)
  clear g hc hrow hl h2
  go_wp2_with fail
  refine (tokens_c _ _ (by decide)).mono ?_
  rintro e w2 ⟨hb2, hans⟩
  rcases hans with ⟨ts, sv, hs, -⟩ | ⟨ts, k, b2, hs, hk, rfl, hbb, hblk⟩
  · rw [ex2] at hs; injection hs with h1 h2; cases h2
  rw [ex2] at hs
  injection hs with h1 h2
  injection h2 with h2
  subst h1 h2
  have l1 := cell_lt c1
  rw [← hb2.cell (p := ⟨b, _, none⟩) l1] at c1 c2 c3 d1 d2 d3
  simp at c1 c2 c3 d1 d2 d3
  have hg2 := Lib.hid ((hg.under hb1).under hb2)
  have hb := Lib.hid (hb1.trans (hb2.mono hb1.size))
  have HK := Lib.hid hblk
  clear hblk hbb hb1 hb2 hg hk d2 d3
  go_wp2_with (go_at_call 9; refine (is_c _ _ _ hg2.out HK.out).mono ?_; rintro e w3 ⟨rfl, hb3⟩)
  go_ret
  exact ⟨rfl, hb.out.trans (hb3.mono hb.out.size)⟩
end Go.Proofs.YtbaoinofpiepmaaDoor
