/- The contract of merlonlaw08.up: the document's example. -/
import Derived.Test.YtjeldfipipkfiaaGreatDoorExE
import Derived.Test.YtjeldfipipkfiaaGreatDoorShelfB
import Derived.Deep.QuietTactic
import Derived.WalkSmall
namespace Go.Proofs.YtjeldfipipkfiaaGreatDoor
open Go.RowKit
set_option linter.unusedSimpArgs false
set_option linter.unusedVariables false
def n8A : ByteArray := { data := #[65] }
def n8T : ByteArray := { data := #[84] }
def n8m : ByteArray := { data := #[109] }
def n8p : ByteArray := { data := #[112] }
def m8 : Mdl := ⟨n8m, [], [⟨3, n8A, listT (locT n8T)⟩, ⟨1, n8T, zT⟩]⟩
def E8 : Env := ⟨m8, n8p, 1, []⟩
def y8 : Ty := listT (openT E8 n8T)
theorem e8_check : checkF m8 = none := by decide +kernel
theorem e8_may : mayT (locT n8A) = true := by decide +kernel
theorem e8_small : smallB n8p = true := by decide +kernel
theorem e8_known : knownB E8 (locT n8A) = true := by decide +kernel
theorem e8_compl : complB E8 (locT n8A) = true := by decide +kernel
theorem e8_empty : (({ data := #[] } : ByteArray).toList.isEmpty) = true := by decide +kernel
theorem e8_exp : Exp E8 (locT n8A) y8 := by
  refine .alias (t := locT n8A) (d := ⟨3, n8A, listT (locT n8T)⟩) rfl e8_empty (by rw [declOf]; show List.find? (isT n8A) [⟨3, n8A, listT (locT n8T)⟩, ⟨1, n8T, zT⟩] = _; rw [List.find?_cons, show isT n8A ⟨3, n8A, listT (locT n8T)⟩ = true by decide +kernel]) rfl ?_
  have := Exp.node (E := E8) (t := listT (locT n8T)) (xs := [openT E8 n8T]) (by show (4 : Int) ≠ 8; decide) rfl (fun i h1 h2 => by
    have h1 : i < 1 := h1
    obtain rfl : i = 0 := by omega
    exact .opn (t := locT n8T) (d := ⟨1, n8T, zT⟩) rfl e8_empty (by
      rw [declOf]; show List.find? (isT n8T) [⟨3, n8A, listT (locT n8T)⟩, ⟨1, n8T, zT⟩] = _
      rw [List.find?_cons, show isT n8T ⟨3, n8A, listT (locT n8T)⟩ = false by decide +kernel, List.find?_cons, show isT n8T ⟨1, n8T, zT⟩ = true by decide +kernel]) (by show (1 : Int) ≠ 3; decide))
  exact this
theorem e8_is : ExpIs E8 (locT n8A) 0 y8 := by
  refine .inr (.inr (.inr ⟨?_, e8_known, e8_compl, y8, e8_exp, .inl ⟨⟨by decide +kernel, by decide +kernel⟩, rfl, rfl⟩⟩))
  rw [argB, show checkF E8.m = none from e8_check, e8_may, show smallB E8.pkg = true from e8_small]
  decide
theorem e8_mayY : mayT y8 = true := by decide +kernel
theorem itoa8_c (w : World) : Calls Tryz.prog 140 #[.int .i64 1] w fun e w' => e = .returned (.string { data := #[49] }) ∧ w' = w := by
  have h := Tryz.strconv_Itoa_small 1 (by decide) w
  have e : (⟨(Lib.decDigits 1).toArray⟩ : ByteArray) = { data := #[49] } := by kernel_rfl
  rw [e] at h
  exact h
set_option maxHeartbeats 4000000 in
theorem textO_c (na : Option Addr) (nc : Nat) (sa : Option Addr) (sc : Nat) (w : World) : Calls Tryz.prog 120 #[.agg #[.int .i64 9, .string { data := #[112] }, .int .i64 1, .string { data := #[109] }, .string { data := #[84] }, .slice na 0 nc, .slice sa 0 sc]] w
    fun e w' => e = .returned (.string { data := #[60, 112, 32, 49, 32, 109, 32, 84, 62] }) ∧ Below w.heap.size w w' := by
  have HB := Lib.hid ((Below.refl w.heap.size w).alloc (Nat.le_refl _) (.cells #[.int .i64 9, .string { data := #[112] }, .int .i64 1, .string { data := #[109] }, .string { data := #[84] }, .slice na 0 nc, .slice sa 0 sc] 29))
  go_enter Tryz.func120, Tryz.ntmps120
  go_upto_region 18 with fail
  go_quiet ((go_at_call 140; exact Calls.quiet_of_same (itoa8_c _)))
  go_wp2_with fail
  go_ret
  exact ⟨rfl, below_drewN HB.out _⟩
set_option maxHeartbeats 4000000 in
theorem textL_c (cs : Array Value) (B : Nat) (w : World) (ht : TyC w B y8 cs) (hB : B ≤ w.heap.size) : Calls Tryz.prog 120 #[.agg cs] w
    fun e w' => e = .returned (.string { data := #[76, 105, 115, 116, 40, 60, 112, 32, 49, 32, 109, 32, 84, 62, 41] }) ∧ Below w.heap.size w w' := by
  obtain ⟨na, nc, sa, sc, f0, rfl, hft, hn, hs, -, -, hsub⟩ := ht.inv
  have h0 := hsub 0 (by decide)
  have h0 : TyC w B (openT E8 n8T) (f0 0) := h0
  have hs : RowsAt w B sa 1 f0 := hs
  obtain ⟨b, o, na2, nc2, sa2, sc2, hsa, hb, hf, c0, c1, c2, c3, c4, c5, c6⟩ := TyC.elem hs (show 0 < 1 by decide) h0
  obtain rfl := hsa
  have lb : b < w.heap.size := by omega
  have d0 : w.cell? ⟨b, o, none⟩ = some (.int .i64 9) := by have h := c0; rw [Nat.zero_mul, Nat.add_zero] at h; exact h
  have d1 : w.cell? ⟨b, o + 1, none⟩ = some (.string { data := #[112] }) := by have h := c1; rw [Nat.zero_mul, Nat.add_zero] at h; exact h
  have d2 : w.cell? ⟨b, o + 2, none⟩ = some (.int .i64 1) := by have h := c2; rw [Nat.zero_mul, Nat.add_zero] at h; exact h
  have d3 : w.cell? ⟨b, o + 3, none⟩ = some (.string { data := #[109] }) := by have h := c3; rw [Nat.zero_mul, Nat.add_zero] at h; exact h
  have d4 : w.cell? ⟨b, o + 4, none⟩ = some (.string { data := #[84] }) := by have h := c4; rw [Nat.zero_mul, Nat.add_zero] at h; exact h
  have d5 : w.cell? ⟨b, o + 5, none⟩ = some (.slice na2 0 nc2) := by have h := c5; rw [Nat.zero_mul, Nat.add_zero] at h; exact h
  have d6 : w.cell? ⟨b, o + 6, none⟩ = some (.slice sa2 0 sc2) := by have h := c6; rw [Nat.zero_mul, Nat.add_zero] at h; exact h
  clear c0 c1 c2 c3 c4 c5 c6 h0 hs hsub hf hn hft ht
  show Calls Tryz.prog 120 #[.agg #[.int .i64 4, .string { data := #[] }, .int .i64 0, .string { data := #[] }, .string { data := #[] }, .slice na 0 nc, .slice (some ⟨b, o, none⟩) 1 sc]] w _
  have HB := Lib.hid ((Below.refl w.heap.size w).alloc (Nat.le_refl _) (.cells #[.int .i64 4, .string { data := #[] }, .int .i64 0, .string { data := #[] }, .string { data := #[] }, .slice na 0 nc, .slice (some ⟨b, o, none⟩) 1 sc] 29))
  go_enter Tryz.func120, Tryz.ntmps120
  go_wp2_with (go_at_call 120; refine (textO_c _ _ _ _ _).mono ?_; rintro e w1 ⟨rfl, hb1⟩; have B1 := Lib.hid (HB.out.trans (hb1.mono HB.out.size)); clear hb1)
  go_ret
  exact ⟨rfl, B1.out⟩
set_option maxHeartbeats 4000000 in
theorem printY_c (cs : Array Value) (B : Nat) (w : World) (ht : TyC w B y8 cs) (hB : B ≤ w.heap.size) : Calls Tryz.prog 64 #[.agg cs] w
    fun e w' => e = .returned (.tuple #[.string { data := #[76, 105, 115, 116, 40, 60, 112, 32, 49, 32, 109, 32, 84, 62, 41] }, .nilIface]) ∧ Below w.heap.size w w' := by
  have HM := Lib.hid (fun w' (hb : Below w.heap.size w w') => May_c y8 cs B w' (ht.under (hb.mono hB)) (Nat.le_trans hB hb.size))
  have HX := Lib.hid (fun w' (hb : Below w.heap.size w w') => textL_c cs B w' (ht.under (hb.mono hB)) (Nat.le_trans hB hb.size))
  simp only [e8_mayY] at HM
  obtain ⟨na, nc, sa, sc, f0, rfl, -⟩ := ht.inv
  clear ht
  have e : tyCells y8 na nc sa sc = #[.int .i64 4, .string { data := #[] }, .int .i64 0, .string { data := #[] }, .string { data := #[] }, .slice na 0 nc, .slice sa 1 sc] := rfl
  rw [e] at HM HX ⊢
  clear e
  go_enter Tryz.func64, Tryz.ntmps64
  go_upto_region 1 with fail
  obtain ⟨b1, hb1, -⟩ := laidN w #[.int .i64 4, .string { data := #[] }, .int .i64 0, .string { data := #[] }, .string { data := #[] }, .slice na 0 nc, .slice sa 1 sc] 29
  generalize w.alloc (.cells #[.int .i64 4, .string { data := #[] }, .int .i64 0, .string { data := #[] }, .string { data := #[] }, .slice na 0 nc, .slice sa 1 sc] 29) = W at b1 hb1 ⊢
  have HB := Lib.hid hb1
  have D1 := Lib.hid b1
  obtain ⟨k0, k1, k2, k3, k4, k5, k6⟩ := cellsT7 b1
  have kl := b1.lt
  clear b1 hb1
  go_wp2_with (first
    | (go_at_call 53; refine (HM.out _ HB.out).mono ?_; rintro e w1 ⟨rfl, hb⟩; have B1 := Lib.hid (HB.out.trans (hb.mono HB.out.size)); have q := D1.out.under hb D1.out.lt; clear hb k0 k1 k2 k3 k4 k5 k6 kl; obtain ⟨k0, k1, k2, k3, k4, k5, k6⟩ := cellsT7 q; have kl := q.lt; clear q)
    | (go_at_call 120; refine (HX.out _ B1.out).mono ?_; rintro e w2 ⟨rfl, hb⟩; have B2 := Lib.hid (B1.out.trans (hb.mono B1.out.size)); clear hb))
  go_ret2
  exact ⟨rfl, B2.out⟩
theorem fits8 (t : Ty) (h : t = locT n8A ∨ t = locT n8T ∨ t = zT) : Fits t := by
  rcases h with rfl | rfl | rfl <;> exact { kind := by decide, major := by decide, pkg := by decide +kernel, mod := by decide +kernel, name := by decide +kernel, names := by decide, each := (fun s hs => by cases hs), subs := by decide }
theorem leaf8 (w : World) (B : Nat) (t : Ty) (hn : t.names = []) (hs : t.subs = []) (hf : Fits t) : TyC w B t (tyCells t none 0 none 0) :=
  .mk t none 0 none 0 (fun _ => #[]) hf (.inl hn) (.inl (by rw [hs]; rfl)) (by rw [hn]; exact Nat.le_refl _) (by rw [hs]; exact Nat.le_refl _) (fun i hi => by rw [hs] at hi; simp at hi)
def d8L : Dcl := ⟨3, n8A, listT (locT n8T)⟩
def d8T : Dcl := ⟨1, n8T, zT⟩
theorem list8 {w : World} {B g : Nat} {TT' : TypeId} (h : Blk w g #[.int .i64 8, .string { data := #[] }, .int .i64 0, .string { data := #[] }, .string { data := #[84] }, .slice none 0 0, .slice none 0 0] TT') (hg : g < B) : TyC w B (listT (locT n8T)) (tyCells (listT (locT n8T)) none 0 (some ⟨g, 0, none⟩) 1) := by
  refine .mk (listT (locT n8T)) none 0 (some ⟨g, 0, none⟩) 1 (fun _ => #[.int .i64 8, .string { data := #[] }, .int .i64 0, .string { data := #[] }, .string { data := #[84] }, .slice none 0 0, .slice none 0 0]) { kind := by decide, major := by decide, pkg := by decide +kernel, mod := by decide +kernel, name := by decide +kernel, names := by decide, each := (fun s hs => by cases hs), subs := by decide } (.inl rfl) (.inr ⟨g, 0, rfl, hg, fun i hi j hj => ?_⟩) (Nat.le_refl _) (Nat.le_refl _) (fun i hi => ?_)
  · have : i = 0 := by have : i < 1 := hi; omega
    subst this
    simpa using h.cell j
  · have : i = 0 := by have : i < 1 := hi; omega
    subst this
    exact leaf8 w B (locT n8T) rfl rfl (fits8 _ (.inr (.inl rfl)))
theorem mdl8 {w : World} {B g gd : Nat} {TT' TD' : TypeId} (h : Blk w g #[.int .i64 8, .string { data := #[] }, .int .i64 0, .string { data := #[] }, .string { data := #[84] }, .slice none 0 0, .slice none 0 0] TT') (hg : g < B)
    (hd : Blk w gd (dclCells d8L none 0 (some ⟨g, 0, none⟩) 1 ++ dclCells d8T none 0 none 0) TD') (hgd : gd < B) : MdlC w B m8 none 0 (some ⟨gd, 0, none⟩) 2 := by
  refine ⟨by decide +kernel, .nil _ _ _, ⟨fun i => if i = 0 then dclCells d8L none 0 (some ⟨g, 0, none⟩) 1 else dclCells d8T none 0 none 0, .inr ⟨gd, 0, rfl, hgd, fun i hi j hj => ?_⟩, fun i hi => ?_⟩, by decide, by decide, Nat.le_refl _, Nat.le_refl _⟩
  · have hi2 : i = 0 ∨ i = 1 := by have : i < 2 := hi; omega
    rcases hi2 with rfl | rfl
    · have hj : j < 9 := hj
      rw [Nat.zero_mul, Nat.zero_add, hd.cell j, Array.getElem?_append_left (by simpa [dclCells] using hj)]
      rfl
    · have hj : j < 9 := hj
      rw [hd.cell, Array.getElem?_append_right (by simp [dclCells])]
      have : 0 + 1 * 9 + j - (dclCells d8L none 0 (some ⟨g, 0, none⟩) 1).size = j := by simp [dclCells]
      rw [this]
      rfl
  · have hi2 : i = 0 ∨ i = 1 := by have : i < 2 := hi; omega
    rcases hi2 with rfl | rfl
    · exact ⟨⟨by show (-9223372036854775808 : Int) ≤ 3 ∧ (3 : Int) ≤ 9223372036854775807; decide, by show n8A.size ≤ maxLen; decide +kernel⟩, none, 0, some ⟨g, 0, none⟩, 1, rfl, list8 h hg⟩
    · exact ⟨⟨by show (-9223372036854775808 : Int) ≤ 1 ∧ (1 : Int) ≤ 9223372036854775807; decide, by show n8T.size ≤ maxLen; decide +kernel⟩, none, 0, none, 0, rfl, leaf8 w B zT rfl rfl (fits8 _ (.inr (.inr rfl)))⟩
theorem fourE (w : World) (C D E F : Array Value) (S T U V : TypeId) : Blk ((((w.alloc (.cells C S)).alloc (.cells D T)).alloc (.cells E U)).alloc (.cells F V)) w.heap.size C S ∧ Blk ((((w.alloc (.cells C S)).alloc (.cells D T)).alloc (.cells E U)).alloc (.cells F V)) (w.heap.size + 1) D T ∧ Blk ((((w.alloc (.cells C S)).alloc (.cells D T)).alloc (.cells E U)).alloc (.cells F V)) (w.heap.size + 1 + 1) E U ∧
    Blk ((((w.alloc (.cells C S)).alloc (.cells D T)).alloc (.cells E U)).alloc (.cells F V)) (w.heap.size + 1 + 1 + 1) F V ∧ ((((w.alloc (.cells C S)).alloc (.cells D T)).alloc (.cells E U)).alloc (.cells F V)).heap.size = w.heap.size + 1 + 1 + 1 + 1 ∧ Below w.heap.size w ((((w.alloc (.cells C S)).alloc (.cells D T)).alloc (.cells E U)).alloc (.cells F V)) := by
  have z1 : (w.alloc (.cells C S)).heap.size = w.heap.size + 1 := by simp
  have z2 : ((w.alloc (.cells C S)).alloc (.cells D T)).heap.size = w.heap.size + 1 + 1 := by simp
  have z3 : (((w.alloc (.cells C S)).alloc (.cells D T)).alloc (.cells E U)).heap.size = w.heap.size + 1 + 1 + 1 := by simp
  have b1 := Blk.new (w.alloc (.cells C S)) D T
  have b2 := Blk.new ((w.alloc (.cells C S)).alloc (.cells D T)) E U
  have b3 := Blk.new (((w.alloc (.cells C S)).alloc (.cells D T)).alloc (.cells E U)) F V
  rw [z1] at b1
  rw [z2] at b2
  rw [z3] at b3
  exact ⟨(((Blk.new w C S).alloc _).alloc _).alloc _, (b1.alloc _).alloc _, b2.alloc _, b3, by simp, ((((Below.refl w.heap.size w).alloc (Nat.le_refl _) _).alloc (by simp) _).alloc (by simp; omega) _).alloc (by simp; omega) _⟩
set_option maxRecDepth 100000 in
set_option maxHeartbeats 8000000 in
theorem up8_c (w : World) : Calls Tryz.prog 25 #[] w fun e w' => e = .returned (.bool true) ∧ Below w.heap.size w w' := by
  go_enter Tryz.func25, Tryz.ntmps25
  go_upto_region 3 with fail
  obtain ⟨b1, b2, b3, b4, hz, hb⟩ := fourE w #[.int .i64 8, .string { data := #[] }, .int .i64 0, .string { data := #[] }, .string { data := #[65] }, .slice none 0 0, .slice none 0 0] #[.int .i64 8, .string { data := #[] }, .int .i64 0, .string { data := #[] }, .string { data := #[84] }, .slice none 0 0, .slice none 0 0] #[.int .i64 3, .string { data := #[65] }, .int .i64 4, .string { data := #[] }, .int .i64 0, .string { data := #[] }, .string { data := #[] }, .slice none 0 0, .slice (some ⟨w.heap.size + 1, 0, none⟩) 1 1, .int .i64 1, .string { data := #[84] }, .int .i64 0, .string { data := #[] }, .int .i64 0, .string { data := #[] }, .string { data := #[] }, .slice none 0 0, .slice none 0 0] #[.string { data := #[109] }, .slice none 0 0, .slice (some ⟨w.heap.size + 1 + 1, 0, none⟩) 2 2] 29 29 45 25
  generalize ((((w.alloc (.cells #[.int .i64 8, .string { data := #[] }, .int .i64 0, .string { data := #[] }, .string { data := #[65] }, .slice none 0 0, .slice none 0 0] 29)).alloc (.cells #[.int .i64 8, .string { data := #[] }, .int .i64 0, .string { data := #[] }, .string { data := #[84] }, .slice none 0 0, .slice none 0 0] 29)).alloc (.cells #[.int .i64 3, .string { data := #[65] }, .int .i64 4, .string { data := #[] }, .int .i64 0, .string { data := #[] }, .string { data := #[] }, .slice none 0 0, .slice (some ⟨w.heap.size + 1, 0, none⟩) 1 1, .int .i64 1, .string { data := #[84] }, .int .i64 0, .string { data := #[] }, .int .i64 0, .string { data := #[] }, .string { data := #[] }, .slice none 0 0, .slice none 0 0] 45)).alloc (.cells #[.string { data := #[109] }, .slice none 0 0, .slice (some ⟨w.heap.size + 1 + 1, 0, none⟩) 2 2] 25)) = W at b1 b2 b3 b4 hz hb ⊢
  have hM : MdlC W W.heap.size m8 none 0 (some ⟨w.heap.size + 1 + 1, 0, none⟩) 2 := mdl8 (g := w.heap.size + 1) b2 (by omega) b3 (by omega)
  have hE : EnvC W W.heap.size E8 none 0 (some ⟨w.heap.size + 1 + 1, 0, none⟩) 2 none 0 := ⟨hM, .nil _ _ _, by decide, by decide, by decide, (fun x hx => by cases hx), by decide +kernel, Nat.le_refl _, by decide⟩
  have hc : Calls Tryz.prog 32 #[.agg #[.string { data := #[109] }, .slice none 0 0, .slice (some ⟨w.heap.size + 1 + 1, 0, none⟩) 2 2], .string { data := #[112] }, .int .i64 1, .slice none 0 0, .agg #[.int .i64 8, .string { data := #[] }, .int .i64 0, .string { data := #[] }, .string { data := #[65] }, .slice none 0 0, .slice none 0 0]] W fun e w' => ∃ na nc sa sc, e = .returned (.tuple #[.agg #[.int .i64 4, .string { data := #[] }, .int .i64 0, .string { data := #[] }, .string { data := #[] }, .slice na 0 nc, .slice sa 1 sc], .nilIface]) ∧ TyC w' w'.heap.size y8 #[.int .i64 4, .string { data := #[] }, .int .i64 0, .string { data := #[] }, .string { data := #[] }, .slice na 0 nc, .slice sa 1 sc] ∧ Below W.heap.size W w' :=
    (expand_c E8 none 0 (some ⟨w.heap.size + 1 + 1, 0, none⟩) 2 none 0 W.heap.size (locT n8A) _ W hE (leaf8 W W.heap.size (locT n8A) rfl rfl (fits8 _ (.inl rfl))) (Nat.le_refl _)).mono fun e w' ⟨c, y, cs', h1, h2, h3, h4⟩ => by
      obtain ⟨rfl, rfl⟩ := h2.uniq e8_is
      obtain ⟨na, nc, sa, sc, f, rfl, -⟩ := h3.inv
      exact ⟨na, nc, sa, sc, h1, (h3.mono (M' := (· < w'.heap.size)) fun b hb => hb.2).toC, h4⟩
  have HC := Lib.hid hc
  have HB := Lib.hid hb
  obtain ⟨x0, x1, x2⟩ := cellsT3 b4
  obtain ⟨y0, y1, y2, y3, y4, y5, y6⟩ := cellsT7 b1
  have l1 := b1.lt
  have l4 := b4.lt
  clear b1 b2 b3 b4 hb hM hE hc
  go_upto_region 4 with (go_at_call 32; refine HC.out.mono ?_; rintro e w1 ⟨na, nc, sa, sc, rfl, hty, hb1⟩; have HTY := Lib.hid hty; have B1 := Lib.hid (HB.out.trans (hb1.mono (by omega))); clear hty hb1)
  clear x0 x1 x2 y0 y1 y2 y3 y4 y5 y6 l1 l4
  obtain ⟨b5, hb5, hz5⟩ := laidN w1 #[.int .i64 4, .string { data := #[] }, .int .i64 0, .string { data := #[] }, .string { data := #[] }, .slice na 0 nc, .slice sa 1 sc] 29
  generalize (w1.alloc (.cells #[.int .i64 4, .string { data := #[] }, .int .i64 0, .string { data := #[] }, .string { data := #[] }, .slice na 0 nc, .slice sa 1 sc] 29)) = W5 at b5 hb5 hz5 ⊢
  have HP := Lib.hid (printY_c _ w1.heap.size W5 (HTY.out.under hb5) hb5.size)
  have B5 := Lib.hid (B1.out.trans (hb5.mono B1.out.size))
  obtain ⟨y0, y1, y2, y3, y4, y5, y6⟩ := cellsT7 b5
  have l5 := b5.lt
  clear b5 hb5
  go_wp2_with (go_at_call 64; refine HP.out.mono ?_; rintro e w2 ⟨rfl, hb2⟩; have B2 := Lib.hid (B5.out.trans (hb2.mono B5.out.size)); clear hb2)
  go_ret
  exact ⟨rfl, B2.out⟩
end Go.Proofs.YtjeldfipipkfiaaGreatDoor
