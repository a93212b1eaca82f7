/- The contract of merlonlaw07.up: the document's example. -/
import Derived.Test.YtjeldfipipkfiaaGreatDoorMenM
import Derived.Test.YtjeldfipipkfiaaGreatDoorGErr
namespace Go.Proofs.YtjeldfipipkfiaaGreatDoor
open Go.RowKit
set_option linter.unusedSimpArgs false
set_option linter.unusedVariables false
def nmA : ByteArray := { data := #[65] }
def nmm : ByteArray := { data := #[109] }
def exA : Ty := .mk 8 { data := #[] } 0 { data := #[] } nmA [] []
def exL : Ty := .mk 4 { data := #[] } 0 { data := #[] } { data := #[] } [] [exA]
def exM : Mdl := ⟨nmm, [], [⟨3, nmA, exL⟩]⟩
theorem ba_small {n : Nat} {s : ByteArray} (h : s.size = n) (hn : n ≤ 100) : s.size ≤ maxLen := by unfold maxLen; omega
theorem tyC_leaf (w : World) (B : Nat) (t : Ty) (hn : t.names = []) (hs : t.subs = []) (hf : Fits t) : TyC w B t (tyCells t none 0 none 0) :=
  .mk t none 0 none 0 (fun _ => #[]) hf (.inl hn) (.inl (by rw [hs]; rfl)) (by rw [hn]; exact Nat.le_refl _) (by rw [hs]; exact Nat.le_refl _) (fun i hi => by rw [hs] at hi; simp at hi)
theorem fitsA : Fits exA := { kind := by decide, major := by decide, pkg := by decide +kernel, mod := by decide +kernel, name := by decide +kernel, names := by decide, each := (fun s hs => by cases hs), subs := by decide }
theorem fitsL : Fits exL := { kind := by decide, major := by decide, pkg := by decide +kernel, mod := by decide +kernel, name := by decide +kernel, names := by decide, each := (fun s hs => by cases hs), subs := by decide }
def cellsA : Array Value := #[.int .i64 8, .string { data := #[] }, .int .i64 0, .string { data := #[] }, .string nmA, .slice none 0 0, .slice none 0 0]
theorem exA_at (w : World) (B : Nat) : TyC w B exA cellsA := tyC_leaf w B exA rfl rfl fitsA
theorem exL_at {w : World} {B g : Nat} {T : TypeId} (h : Blk w g cellsA T) (hg : g < B) : TyC w B exL (tyCells exL none 0 (some ⟨g, 0, none⟩) 1) := by
  refine .mk exL none 0 (some ⟨g, 0, none⟩) 1 (fun _ => cellsA) fitsL (.inl rfl) (.inr ⟨g, 0, rfl, hg, fun i hi j hj => ?_⟩) (Nat.le_refl _) (Nat.le_refl _) (fun i hi => ?_)
  · have : i = 0 := by have : i < 1 := hi; omega
    subst this
    simpa using h.cell j
  · have : i = 0 := by have : i < 1 := hi; omega
    subst this
    exact exA_at w B
theorem exM_at {w : World} {B g gd : Nat} {T T' : TypeId} (h : Blk w g cellsA T) (hg : g < B) (hd : Blk w gd (dclCells ⟨3, nmA, exL⟩ none 0 (some ⟨g, 0, none⟩) 1) T') (hgd : gd < B) : MdlC w B exM none 0 (some ⟨gd, 0, none⟩) 1 := by
  refine ⟨by decide +kernel, .nil _ _ _, ⟨fun _ => dclCells ⟨3, nmA, exL⟩ none 0 (some ⟨g, 0, none⟩) 1, .inr ⟨gd, 0, rfl, hgd, fun i hi j hj => ?_⟩, fun i hi => ?_⟩, by decide, by decide, Nat.le_refl _, Nat.le_refl _⟩
  · have : i = 0 := by have : i < 1 := hi; omega
    subst this
    simpa using hd.cell j
  · have : i = 0 := by have : i < 1 := hi; omega
    subst this
    exact ⟨⟨by show (-9223372036854775808 : Int) ≤ 3 ∧ (3 : Int) ≤ 9223372036854775807; decide, by show nmA.size ≤ maxLen; decide +kernel⟩, none, 0, some ⟨g, 0, none⟩, 1, rfl, exL_at h hg⟩
theorem exM_check : checkF exM = some (6, some 0) := by decide +kernel
theorem exM_ment : mentM exM exA = [nmA] := by
  have h1 : mayM exM = true := by decide +kernel
  have h2 : mayT exA = true := by decide +kernel
  have h3 : mentF exM.decls exA = [nmA] := by decide +kernel
  rw [mentM, h1, h2, h3]
  simp [sortN, uL, uB]
theorem fourB (w : World) (C D E F : Array Value) (S T U V : TypeId) : Blk ((((w.alloc (.cells C S)).alloc (.cells D T)).alloc (.cells E U)).alloc (.cells F V)) w.heap.size C S ∧ Blk ((((w.alloc (.cells C S)).alloc (.cells D T)).alloc (.cells E U)).alloc (.cells F V)) (w.heap.size + 1) D T ∧ Blk ((((w.alloc (.cells C S)).alloc (.cells D T)).alloc (.cells E U)).alloc (.cells F V)) (w.heap.size + 1 + 1) E U ∧
    Blk ((((w.alloc (.cells C S)).alloc (.cells D T)).alloc (.cells E U)).alloc (.cells F V)) (w.heap.size + 1 + 1 + 1) F V ∧ ((((w.alloc (.cells C S)).alloc (.cells D T)).alloc (.cells E U)).alloc (.cells F V)).heap.size = w.heap.size + 1 + 1 + 1 + 1 ∧ Below w.heap.size w ((((w.alloc (.cells C S)).alloc (.cells D T)).alloc (.cells E U)).alloc (.cells F V)) := by
  have z1 : (w.alloc (.cells C S)).heap.size = w.heap.size + 1 := by simp
  have z2 : ((w.alloc (.cells C S)).alloc (.cells D T)).heap.size = w.heap.size + 1 + 1 := by simp
  have z3 : (((w.alloc (.cells C S)).alloc (.cells D T)).alloc (.cells E U)).heap.size = w.heap.size + 1 + 1 + 1 := by simp
  have b1 := Blk.new (w.alloc (.cells C S)) D T
  have b2 := Blk.new ((w.alloc (.cells C S)).alloc (.cells D T)) E U
  have b3 := Blk.new (((w.alloc (.cells C S)).alloc (.cells D T)).alloc (.cells E U)) F V
  rw [z1] at b1
  rw [z2] at b2
  rw [z3] at b3
  exact ⟨(((Blk.new w C S).alloc _).alloc _).alloc _, (b1.alloc _).alloc _, b2.alloc _, b3, by simp, ((((Below.refl w.heap.size w).alloc (Nat.le_refl _) _).alloc (by simp) _).alloc (by simp; omega) _).alloc (by simp; omega) _⟩
set_option maxRecDepth 100000 in
set_option maxHeartbeats 8000000 in
theorem up7_c (w : World) (hg : HandleE w) : Calls Tryz.prog 12 #[] w fun e w' => e = .returned (.bool true) ∧ Below w.heap.size w w' := by
  have HG := Lib.hid hg
  clear hg
  go_enter Tryz.func12, Tryz.ntmps12
  go_upto_region 3 with fail
  obtain ⟨b1, b2, b3, b4, hz, hb⟩ := fourB w #[.int .i64 8, .string { data := #[] }, .int .i64 0, .string { data := #[] }, .string { data := #[65] }, .slice none 0 0, .slice none 0 0] #[.int .i64 8, .string { data := #[] }, .int .i64 0, .string { data := #[] }, .string { data := #[65] }, .slice none 0 0, .slice none 0 0] #[.int .i64 3, .string { data := #[65] }, .int .i64 4, .string { data := #[] }, .int .i64 0, .string { data := #[] }, .string { data := #[] }, .slice none 0 0, .slice (some ⟨w.heap.size + 1, 0, none⟩) 1 1] #[.string { data := #[109] }, .slice none 0 0, .slice (some ⟨w.heap.size + 1 + 1, 0, none⟩) 1 1] 29 29 45 25
  generalize ((((w.alloc (.cells #[.int .i64 8, .string { data := #[] }, .int .i64 0, .string { data := #[] }, .string { data := #[65] }, .slice none 0 0, .slice none 0 0] 29)).alloc (.cells #[.int .i64 8, .string { data := #[] }, .int .i64 0, .string { data := #[] }, .string { data := #[65] }, .slice none 0 0, .slice none 0 0] 29)).alloc (.cells #[.int .i64 3, .string { data := #[65] }, .int .i64 4, .string { data := #[] }, .int .i64 0, .string { data := #[] }, .string { data := #[] }, .slice none 0 0, .slice (some ⟨w.heap.size + 1, 0, none⟩) 1 1] 45)).alloc (.cells #[.string { data := #[109] }, .slice none 0 0, .slice (some ⟨w.heap.size + 1 + 1, 0, none⟩) 1 1] 25)) = W at b1 b2 b3 b4 hz hb ⊢
  have hM : MdlC W W.heap.size exM none 0 (some ⟨w.heap.size + 1 + 1, 0, none⟩) 1 := exM_at (g := w.heap.size + 1) b2 (by omega) b3 (by omega)
  have hA : TyC W W.heap.size exA cellsA := exA_at W _
  have hc1 := mentM_c exM none 0 (some ⟨w.heap.size + 1 + 1, 0, none⟩) 1 W.heap.size exA cellsA W hM hA (Nat.le_refl _)
  rw [exM_ment] at hc1
  have hc2 := fun W2 (hb2 : Below W.heap.size W W2) => check_c exM none 0 (some ⟨w.heap.size + 1 + 1, 0, none⟩) 1 W.heap.size W2 (hM.under hb2) hb2.size
  rw [exM_check] at hc2
  have hc1' : Calls Tryz.prog 18 #[.agg #[.string { data := #[109] }, .slice none 0 0, .slice (some ⟨w.heap.size + 1 + 1, 0, none⟩) 1 1], .agg #[.int .i64 8, .string { data := #[] }, .int .i64 0, .string { data := #[] }, .string { data := #[65] }, .slice none 0 0, .slice none 0 0]] W fun e w' => ∃ A c, e = .returned (.slice A 1 c) ∧ StrsAt w' w'.heap.size A [nmA] ∧ 1 ≤ c ∧ Below W.heap.size W w' := hc1
  have hc2' : ∀ W2, Below W.heap.size W W2 → Calls Tryz.prog 15 #[.agg #[.string { data := #[109] }, .slice none 0 0, .slice (some ⟨w.heap.size + 1 + 1, 0, none⟩) 1 1]] W2 fun e w' => ∃ v, e = .returned v ∧ ErrAt w' v (some (6, some 0)) ∧ Below W2.heap.size W2 w' := hc2
  have H1 := Lib.hid hc1'
  have H2 := Lib.hid hc2'
  have HB := Lib.hid hb
  have D4 := Lib.hid b4
  have HGW := Lib.hid (HG.out.under hb)
  obtain ⟨x0, x1, x2⟩ := cellsT3 b4
  obtain ⟨y0, y1, y2, y3, y4, y5, y6⟩ := cellsT7 b1
  have l1 := b1.lt
  have l4 := b4.lt
  clear hc1 hc2 hc1' hc2' hb b1 b2 b3 b4 hM hA hz
  go_wp2_with (first
    | (go_at_call 18; refine H1.out.mono ?_; rintro e w2 ⟨A, c, rfl, hs, hcap, hb⟩; obtain ⟨bb, oo, rfl, lbb, hcc⟩ := hs.elem (k := 0) (Nat.lt_succ_self 0) (x := nmA) rfl; have hcc' := Lib.hid hcc; clear hcc hs; have hcc := hcc'.out; rw [Nat.add_zero] at hcc; have B2 := Lib.hid hb; have d4 := D4.out.under hb D4.out.lt; clear hb x0 x1 x2 y0 y1 y2 y3 y4 y5 y6 l1 l4; obtain ⟨x0, x1, x2⟩ := cellsT3 d4; have l4 := d4.lt; clear d4)
    | (go_at_call 15; refine (H2.out _ B2.out).mono ?_; rintro e w3 ⟨v, rfl, ⟨b, rfl, hs3⟩, hb⟩; have B3 := Lib.hid (B2.out.trans (hb.mono B2.out.size)); have HS3 := Lib.hid hs3; have hcc := (hb.cell (p := ⟨bb, oo, none⟩) lbb).trans hcc; have lbb3 := Nat.lt_of_lt_of_le lbb hb.size; clear hb hs3 x0 x1 x2 l4)
    | (go_at_call 46; refine (isC_c b ((0 : Nat) : Int) 6 _ (HGW.out.under B3.out) HS3.out).mono ?_; rintro e w4 ⟨rfl, hb⟩; have B4 := Lib.hid (B3.out.trans (hb.mono B3.out.size)); have hcc := (hb.cell (p := ⟨bb, oo, none⟩) lbb3).trans hcc; have lbb4 := Nat.lt_of_lt_of_le lbb3 hb.size; clear hb))
  go_ret
  exact ⟨ret_b (by decide +kernel), HB.out.trans (B4.out.mono HB.out.size)⟩
end Go.Proofs.YtjeldfipipkfiaaGreatDoor
