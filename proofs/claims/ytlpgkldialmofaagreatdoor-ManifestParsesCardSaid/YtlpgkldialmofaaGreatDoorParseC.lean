/- semver.Parse at any text of less than 4294967281 bytes; the premise: the library's number MaxLen reads as some int. -/
import Derived.Test.YtlpgkldialmofaaGreatDoorLibV
import Derived.Test.YtlpgkldialmofaaGreatDoorNumS
import Derived.Deep.RegionHeld3
namespace Go.Proofs.YtlpgkldialmofaaGreatDoor
open Go.RowKit
set_option linter.unusedSimpArgs false
set_option linter.unusedVariables false
theorem okF_may (a b c : Int) : okF a b c = mayB a b c := by
  rw [Bool.eq_iff_iff, okF_iff]
  simp [mayB, partB]; omega
/-- what semver.Parse tells of a row of bytes -/
def parV (l : List UInt8) : Int × Int × Int := (parseF l).getD (0, 0, 0)
def parE (l : List UInt8) : Int := if (parseF l).isSome then 0 else 2
theorem parse_pieces (s : ByteArray) : cutF s.data.toList = (Lib.splitB { data := #[46] } 0 (Lib.countB s { data := #[46] }) s).map (·.data.toList) := by
  rw [Lib.splitB_data]; rfl
theorem three_of {α : Type} {l : List α} (h : l.length = 3) : ∃ a b c, l = [a, b, c] := by
  match l, h with
  | [a, b, c], _ => exact ⟨a, b, c, rfl⟩
theorem splitB_len (s : ByteArray) : (Lib.splitB { data := #[46] } 0 (Lib.countB s { data := #[46] }) s).length = Lib.countB s { data := #[46] } + 1 :=
  Lib.splitB_all _ (by decide) 0 _ s rfl
theorem par_not {s : ByteArray} (h : Lib.countB s { data := #[46] } ≠ 2) : parseF s.data.toList = none := by
  have hl : (cutF s.data.toList).length ≠ 3 := by rw [parse_pieces, List.length_map, splitB_len]; omega
  unfold parseF
  split
  · rename_i e; rw [e] at hl; exact absurd rfl hl
  · rfl
theorem par_three {s a b c : ByteArray} (h : Lib.splitB { data := #[46] } 0 (Lib.countB s { data := #[46] }) s = [a, b, c]) : parseF s.data.toList = if mayB (numF a.data.toList) (numF b.data.toList) (numF c.data.toList) then some (numF a.data.toList, numF b.data.toList, numF c.data.toList) else none := by
  unfold parseF
  rw [parse_pieces, h]
  simp only [List.map_cons, List.map_nil, okF_may]
set_option maxRecDepth 100000 in
set_option maxHeartbeats 8000000 in
theorem parse_c (s : ByteArray) (w : World) (hs : s.size < 4294967281) (hm : MaxW w) : Calls Tryz.prog 13 #[.string s] w fun e w' => e = .returned (.tuple #[.agg (ver (parV s.data.toList).1 (parV s.data.toList).2.1 (parV s.data.toList).2.2), errV (parE s.data.toList)]) ∧ Below w.heap.size w w' := by
  obtain ⟨F, HF⟩ : ∃ F : ByteArray → Int, Hid ((∀ (s : ByteArray) (w : World), Calls Tryz.prog 33 #[.string s] w fun e w' => e = .returned (.int .i64 (F s)) ∧ w = w') ∧ ∀ s, F s = numF s.data.toList) := ⟨fun s => numF s.data.toList, Lib.hid ⟨number_c, fun _ => rfl⟩⟩
  obtain ⟨V, hV⟩ : ∃ V, parV s.data.toList = V := ⟨_, rfl⟩
  obtain ⟨E, hE⟩ : ∃ V, parE s.data.toList = V := ⟨_, rfl⟩
  rw [hV, hE]
  have HV := Lib.hid hV
  have HE := Lib.hid hE
  clear hV hE
  have HM := Lib.hid hm
  clear hm
  go_enter Tryz.func13, Tryz.ntmps13
  go_wp2_with fail
  have hz := Blk.new w #[.int .i64 0, .int .i64 0, .int .i64 0] 24
  have hb0 : Below w.heap.size w (w.alloc (.cells #[.int .i64 0, .int .i64 0, .int .i64 0] 24)) := (Below.refl _ w).alloc (Nat.le_refl _) _
  have hms := HM.out.below hb0
  have hs1 : (w.alloc (.cells #[.int .i64 0, .int .i64 0, .int .i64 0] 24)).heap.size = w.heap.size + 1 := by simp
  generalize (w.alloc (.cells #[.int .i64 0, .int .i64 0, .int .i64 0] 24)) = W at hz hb0 hms hs1 ⊢
  obtain ⟨n, hn⟩ : ∃ n, Lib.countB s { data := #[46] } = n := ⟨_, rfl⟩
  obtain ⟨L, hL⟩ : ∃ L, Lib.splitB { data := #[46] } 0 (Lib.countB s { data := #[46] }) s = L := ⟨_, rfl⟩
  have hsp := split_c s { data := #[46] } W hs (by decide) hms
  have hLn : L.length = n + 1 := by rw [← hL, splitB_len, hn]
  have hpn : n ≠ 2 → parseF s.data.toList = none := fun h => par_not (by rw [hn]; exact h)
  have hp3 : ∀ a b c, L = [a, b, c] → parseF s.data.toList = if mayB (F a) (F b) (F c) then some (F a, F b, F c) else none := fun a b c h => by rw [HF.out.2, HF.out.2, HF.out.2]; exact par_three (by rw [hL, h])
  rw [hL, hn] at hsp
  have HP3 := Lib.hid hp3
  have HPN := Lib.hid hpn
  have hnb : n ≤ s.size := by rw [← hn]; exact Lib.countB_le _ (by decide) _ s (Nat.le_refl _)
  clear hL hn hp3 hpn
  refine hsp.mono ?_
  rintro e w1 ⟨rfl, rfl⟩
  have hc := Blk.new W (L.map Value.string).toArray 9
  have hzz := hz.alloc (.cells (L.map Value.string).toArray 9)
  have hb1 : Below w.heap.size w (W.alloc (.cells (L.map Value.string).toArray 9)) := hb0.alloc (by omega) _
  have hs2 : (W.alloc (.cells (L.map Value.string).toArray 9)).heap.size = w.heap.size + 1 + 1 := by simp [hs1]
  rw [hs1] at hc ⊢
  generalize (W.alloc (.cells (L.map Value.string).toArray 9)) = W2 at hc hzz hb1 hs2 ⊢
  clear hsp
  by_cases hn2 : n = 2
  rotate_left
  · have hp := HPN.out hn2
    have e1 : V = (0, 0, 0) := by rw [← HV.out, parV, hp]; rfl
    have e2 : E = 2 := by rw [← HE.out, parE, hp]; rfl
    subst e1 e2
    have hnI : (((n + 1 : Nat) : Int) == 3) = false := by simp; omega
    have HB := Lib.hid hb1
    have HZ := Lib.hid hzz
    obtain ⟨q0, q1, q2⟩ := cells3 hzz
    have f0 := hzz.free 0
    have f1 := hzz.free 1
    have f2 := hzz.free 2
    have lz := hzz.lt
    clear hz hb0 hms hs1 hc hzz hb1 hs2 hp hn2 hLn hnb
    go_wp2_with fail
    have hp := put3_full (.int .i64 0) (.int .i64 0) (.int .i64 0) HZ.out
    have hbp := put3_bel (.int .i64 0) (.int .i64 0) (.int .i64 0) HB.out (Nat.le_refl _)
    generalize (((W2.setCell ⟨w.heap.size, 0, none⟩ (.int .i64 0)).setCell ⟨w.heap.size, 1, none⟩ (.int .i64 0)).setCell ⟨w.heap.size, 2, none⟩ (.int .i64 0)) = Wz at hp hbp ⊢
    obtain ⟨r0, r1, r2⟩ := cells3 hp
    refine bodyPost_ret (by simp [results, Tryz.results13, go_sem, r0, r1, r2]; try rfl) rfl ?_
    exact ⟨rfl, hbp⟩
  subst hn2
  obtain ⟨A, B, C, rfl⟩ := three_of hLn
  have hP := HP3.out A B C rfl
  have HP := Lib.hid hP
  simp only [List.map_cons, List.map_nil] at hc
  have HC := Lib.hid hc
  have HZ := Lib.hid hzz
  have HB := Lib.hid hb1
  have HS2 := Lib.hid hs2
  have HFN := Lib.hid HF.out.1
  clear hz hb0 hms hs1 hc hzz hb1 hs2 HP3 HPN hP hLn hnb HF
  go_upto_region 4 with fail
  go_region_held3 (fun w' => w'.cell? ⟨w.heap.size + 1, 0, none⟩ = some (.string A) ∧ w'.cell? ⟨w.heap.size + 1, 1, none⟩ = some (.string B) ∧ w'.cell? ⟨w.heap.size + 1, 2, none⟩ = some (.string C) ∧ True)
    (first | exact ⟨HC.out.drew.cell 0, HC.out.drew.cell 1, HC.out.drew.cell 2, trivial⟩ | exact ⟨(HC.out.alloc _).drew.cell 0, (HC.out.alloc _).drew.cell 1, (HC.out.alloc _).drew.cell 2, trivial⟩ | exact ⟨(HC.out.drew.alloc _).cell 0, (HC.out.drew.alloc _).cell 1, (HC.out.drew.alloc _).cell 2, trivial⟩ | (go_keep))
    (first | (go_at_call 33; refine (HFN.out _ _).mono ?_; rintro e wn ⟨rfl, rfl⟩))
  all_goals
    obtain ⟨x, hx⟩ : ∃ x, F A = x := ⟨_, rfl⟩
    obtain ⟨y, hy⟩ : ∃ x, F B = x := ⟨_, rfl⟩
    obtain ⟨z, hz⟩ : ∃ x, F C = x := ⟨_, rfl⟩
    have HP2 := Lib.hid HP.out
    have hp2 := HP2.out
    rw [hx, hy, hz] at hp2
    have HQ := Lib.hid hp2
    rw [hx, hy, hz]
    clear HP2 hp2 HP
    have hn := (Blk.new W2 #[.int .i64 x, .int .i64 y, .int .i64 z] 24).drew
    have hzz := (HZ.out.alloc (.cells #[.int .i64 x, .int .i64 y, .int .i64 z] 24)).drew
    have hbb := (HB.out.alloc (by have := HS2.out; omega) (.cells #[.int .i64 x, .int .i64 y, .int .i64 z] 24)).drew
    generalize (W2.alloc (.cells #[.int .i64 x, .int .i64 y, .int .i64 z] 24)).drew = Y at hn hzz hbb ⊢
    have hbn : w.heap.size + 1 + 1 = W2.heap.size := HS2.out.symm
    generalize W2.heap.size = bn at hn hbn ⊢
    obtain ⟨n0, n1, n2⟩ := cells3 hn
    have ln := hn.lt
    go_wp2_with fail
    refine (semMay_c x y z Y).mono ?_
    rintro e y1 ⟨rfl, hb1⟩
    have hz1 := hzz.under hb1 hzz.lt
    have hn1 := hn.under hb1 hn.lt
    have hbz := acc0 hbb hbb.size hb1
    have HZ1 := Lib.hid hz1
    have HBZ := Lib.hid hbz
    obtain ⟨q0, q1, q2⟩ := cells3 hz1
    have f0 := hz1.free 0
    have f1 := hz1.free 1
    have f2 := hz1.free 2
    have lz := hz1.lt
    clear n0 n1 n2 ln
    obtain ⟨n0, n1, n2⟩ := cells3 hn1
    have ln := hn1.lt
    clear hn hzz hbb hb1 hz1 hn1 hbz hx hy hz
    obtain ⟨m, hm⟩ : ∃ m, mayB x y z = m := ⟨_, rfl⟩
    rw [hm]
    have hq := HQ.out
    rw [hm] at hq
    clear HQ hm
    cases m
  all_goals first
    | (have e1 : V = (0, 0, 0) := by rw [← HV.out, parV, hq]; rfl
       have e2 : E = 2 := by rw [← HE.out, parE, hq]; rfl
       subst e1 e2
       clear hq
       go_wp2_with fail
       have hp := put3_full (.int .i64 0) (.int .i64 0) (.int .i64 0) HZ1.out
       have hbp := put3_bel (.int .i64 0) (.int .i64 0) (.int .i64 0) HBZ.out (Nat.le_refl _)
       generalize (((y1.setCell ⟨w.heap.size, 0, none⟩ (.int .i64 0)).setCell ⟨w.heap.size, 1, none⟩ (.int .i64 0)).setCell ⟨w.heap.size, 2, none⟩ (.int .i64 0)) = Wz at hp hbp ⊢
       obtain ⟨r0, r1, r2⟩ := cells3 hp
       refine bodyPost_ret (by simp [results, Tryz.results13, go_sem, r0, r1, r2]; try rfl) rfl ?_
       exact ⟨rfl, hbp⟩)
    | (have e1 : V = (x, y, z) := by rw [← HV.out, parV, hq]; rfl
       have e2 : E = 0 := by rw [← HE.out, parE, hq]; rfl
       subst e1 e2
       clear hq
       go_wp2_with fail
       have hp := put3_full (.int .i64 x) (.int .i64 y) (.int .i64 z) HZ1.out
       have hbp := put3_bel (.int .i64 x) (.int .i64 y) (.int .i64 z) HBZ.out (Nat.le_refl _)
       generalize (((y1.setCell ⟨w.heap.size, 0, none⟩ (.int .i64 x)).setCell ⟨w.heap.size, 1, none⟩ (.int .i64 y)).setCell ⟨w.heap.size, 2, none⟩ (.int .i64 z)) = Wz at hp hbp ⊢
       obtain ⟨r0, r1, r2⟩ := cells3 hp
       refine bodyPost_ret (by simp [results, Tryz.results13, go_sem, r0, r1, r2]; try rfl) rfl ?_
       exact ⟨rfl, hbp⟩)
end Go.Proofs.YtlpgkldialmofaaGreatDoor
