/- The statement IfaceMays: the law's walk. -/
import Derived.Test.YtjeldfipipkfiaaGreatGUpI
import Derived.Test.YtjeldfipipkfiaaGreatSamJ
namespace Go.Proofs.YtjeldfipipkfiaaGreat
open Go.RowKit
set_option linter.unusedSimpArgs false
set_option linter.unusedVariables false
theorem two_ifs {w : World} {B g : Nat} {a b : If} {ca cb : Array Value} {T : TypeId} (h : Blk w g (ca ++ cb) T) (hg : g < B) (ha : IfC w B a ca) (hb : IfC w B b cb) : IfsAt w B (some ⟨g, 0, none⟩) [a, b] := by
  have sa := ha.size
  have sb := hb.size
  refine ⟨fun i => if i = 0 then ca else cb, .inr ⟨g, 0, rfl, hg, fun i hi j hj => ?_⟩, fun i hi => ?_⟩
  · have hi2 : i = 0 ∨ i = 1 := by have : i < 2 := hi; omega
    rcases hi2 with rfl | rfl
    · have hj : j < 5 := by have : j < ca.size := hj; omega
      rw [Nat.zero_mul, Nat.zero_add, h.cell j, Array.getElem?_append_left (by omega)]
      rfl
    · have hj : j < 5 := by have : j < cb.size := hj; omega
      rw [h.cell, Array.getElem?_append_right (by omega)]
      have : 0 + 1 * 5 + j - ca.size = j := by omega
      rw [this]
      rfl
  · have hi2 : i = 0 ∨ i = 1 := by have : i < 2 := hi; omega
    rcases hi2 with rfl | rfl
    · exact ha
    · exact hb
set_option maxRecDepth 100000 in
set_option maxHeartbeats 40000000 in
theorem ifaceMays_c (a b : If) (ca cb : Array Value) (w : World) (ha : IfC w w.heap.size a ca) (hb : IfC w w.heap.size b cb) :
    Calls Tryz.prog 4 #[.agg ca, .agg cb] w fun e w' => e = .returned (.bool true) ∧ Below w.heap.size w w' := by
  obtain ⟨hf, ta, tc, va, vc, rfl, ht, hv, htc, hvc⟩ := ha
  obtain ⟨hf', ta', tc', va', vc', rfl, ht', hv', htc', hvc'⟩ := hb
  obtain ⟨q, hq⟩ : ∃ q, FewI [a, b] = q := ⟨_, rfl⟩
  have hfe := fun W g T (hb : Below w.heap.size w W) (hg : Blk W g (ifCells a ta tc va vc ++ ifCells b ta' tc' va' vc') T) => FewI_c [a, b] (some ⟨g, 0, none⟩) 2 W.heap.size W (two_ifs hg hg.lt ⟨hf, _, _, _, _, rfl, (ht.under hb).mono hb.size, (hv.under hb).mono hb.size, htc, hvc⟩ ⟨hf', _, _, _, _, rfl, (ht'.under hb).mono hb.size, (hv'.under hb).mono hb.size, htc', hvc'⟩) (Nat.le_refl _) (by simp [maxLen])
  have hra := fun W (hb : Below w.heap.size w W) hfx => refIfMay_c a ta tc va vc w.heap.size W hf (ht.under hb) (hv.under hb) hb.size hfx
  have hrb := fun W (hb : Below w.heap.size w W) hfx => refIfMay_c b ta' tc' va' vc' w.heap.size W hf' (ht'.under hb) (hv'.under hb) hb.size hfx
  have hma := fun W (hb : Below w.heap.size w W) => ifMay_c a ta tc va vc w.heap.size W hf (ht.under hb) (hv.under hb) hb.size
  have hsr := fun W (hb : Below w.heap.size w W) => refSamI_c a b ta tc va vc ta' tc' va' vc' w.heap.size W hf (ht.under hb) (hv.under hb) (ht'.under hb) (hv'.under hb) hb.size
  have hs1 := fun W (hb : Below w.heap.size w W) => ifSame_c a b ta tc va vc ta' tc' va' vc' w.heap.size W hf hf' (ht.under hb) (hv.under hb) (ht'.under hb) (hv'.under hb) hb.size
  have hs2 := fun W (hb : Below w.heap.size w W) => ifSame_c a a ta tc va vc ta tc va vc w.heap.size W hf hf (ht.under hb) (hv.under hb) (ht.under hb) (hv.under hb) hb.size
  obtain ⟨p1, g1⟩ : ∃ q, imayB a = q := ⟨_, rfl⟩
  obtain ⟨p2, g2⟩ : ∃ q, imayB b = q := ⟨_, rfl⟩
  obtain ⟨s, g3⟩ : ∃ q, sameI a b = q := ⟨_, rfl⟩
  have hj1 : sameJ a b = (p1 && (p2 && s)) := by rw [sameJ, g1, g2, g3]
  have hj2 : sameJ a a = p1 := by rw [sameJ, g1, sameI_refl]; cases p1 <;> rfl
  have HFX := Lib.hid (show q = true → fewX a = true ∧ fewX b = true from fun e => by
    rw [e, FewI, Bool.and_eq_true, List.all_eq_true] at hq
    exact ⟨hq.2 a (by simp), hq.2 b (by simp)⟩)
  simp only [hq, ifCells] at hfe
  simp only [List.append_toArray, List.cons_append, List.nil_append] at hfe
  simp only [g1, ifCells] at hra hma
  simp only [g2, ifCells] at hrb
  simp only [g3, ifCells] at hsr
  simp only [hj1, ifCells] at hs1
  simp only [hj2, ifCells] at hs2
  have HFE := Lib.hid hfe
  have HRA := Lib.hid hra
  have HRB := Lib.hid hrb
  have HMA := Lib.hid hma
  have HSR := Lib.hid hsr
  have HS1 := Lib.hid hs1
  have HS2 := Lib.hid hs2
  clear hfe hra hrb hma hsr hs1 hs2 hq g1 g2 g3 hj1 hj2 hf hf' ht hv ht' hv' htc hvc htc' hvc'
  simp only [ifCells]
  go_enter Tryz.func4, Tryz.ntmps4
  go_upto_region 1 with fail
  obtain ⟨W, hWq, d0, d1, hz, hb⟩ := twoIX w #[.string a.pkg, .int .i64 a.major, .string a.mod, .slice ta a.types.length tc, .slice va a.vals.length vc] #[.string b.pkg, .int .i64 b.major, .string b.mod, .slice ta' b.types.length tc', .slice va' b.vals.length vc'] 33 33
  rewrite [← hWq]; clear hWq
  have BC := Lib.hid hb
  have D0 := Lib.hid d0
  have D1 := Lib.hid d1
  clear hb d0 d1 hz
  obtain ⟨e0, e1, e2, e3, e4⟩ := cells5 D0.out
  have el := D0.out.lt
  obtain ⟨o0, o1, o2, o3, o4⟩ := cells5 D1.out
  have ol := D1.out.lt
  go_upto_region 2 with (go_at_call 6; refine (up10_c _).mono ?_; rintro e wn ⟨rfl, hb⟩; have D0 := Lib.hid (D0.out.under hb D0.out.lt); have D1 := Lib.hid (D1.out.under hb D1.out.lt); have BC := Lib.hid (BC.out.trans (hb.mono BC.out.size)); clear hb e0 e1 e2 e3 e4 el o0 o1 o2 o3 o4 ol; obtain ⟨e0, e1, e2, e3, e4⟩ := cells5 D0.out; have el := D0.out.lt; obtain ⟨o0, o1, o2, o3, o4⟩ := cells5 D1.out; have ol := D1.out.lt)
  obtain ⟨bN, hX, -⟩ := laidN wn #[.string a.pkg, .int .i64 a.major, .string a.mod, .slice ta a.types.length tc, .slice va a.vals.length vc, .string b.pkg, .int .i64 b.major, .string b.mod, .slice ta' b.types.length tc', .slice va' b.vals.length vc'] 33
  have HX := Lib.hid hX
  have BN := Lib.hid bN
  have BX := Lib.hid (BC.out.trans (hX.mono BC.out.size))
  have D0 := Lib.hid (D0.out.under hX D0.out.lt)
  have D1 := Lib.hid (D1.out.under hX D1.out.lt)
  clear hX bN
  go_upto_region 3 with (go_at_call 8; refine (HFE.out _ _ _ BX.out BN.out).mono ?_; rintro e w3 ⟨rfl, hb⟩; have BC := BX; have D0 := Lib.hid (D0.out.under hb D0.out.lt); have D1 := Lib.hid (D1.out.under hb D1.out.lt); have BC := Lib.hid (BC.out.trans (hb.mono BC.out.size)); clear hb e0 e1 e2 e3 e4 el o0 o1 o2 o3 o4 ol; obtain ⟨e0, e1, e2, e3, e4⟩ := cells5 D0.out; have el := D0.out.lt; obtain ⟨o0, o1, o2, o3, o4⟩ := cells5 D1.out; have ol := D1.out.lt)
  cases q
  · go_wp2_with fail
    go_ret
    exact ⟨rfl, BC.out⟩
  by_cases z1 : 500 < (a.pkg.size : Int)
  · go_wp2_with fail
    go_ret
    exact ⟨rfl, BC.out⟩
  by_cases z2 : 500 < (a.mod.size : Int)
  · go_wp2_with fail
    go_ret
    exact ⟨rfl, BC.out⟩
  have HRA2 := Lib.hid (fun W (hb : Below w.heap.size w W) => HRA.out W hb (HFX.out rfl).1)
  have HRB2 := Lib.hid (fun W (hb : Below w.heap.size w W) => HRB.out W hb (HFX.out rfl).2)
  go_upto_region 7 with (first
    | (go_at_call 14; have hno := M1; refine (HRB2.out _ BC.out).mono ?_; rintro e wn ⟨rfl, hb⟩; have D0 := Lib.hid (D0.out.under hb D0.out.lt); have D1 := Lib.hid (D1.out.under hb D1.out.lt); have BC := Lib.hid (BC.out.trans (hb.mono BC.out.size)); clear hb e0 e1 e2 e3 e4 el o0 o1 o2 o3 o4 ol; obtain ⟨e0, e1, e2, e3, e4⟩ := cells5 D0.out; have el := D0.out.lt; obtain ⟨o0, o1, o2, o3, o4⟩ := cells5 D1.out; have ol := D1.out.lt)
    | (go_at_call 14; refine (HRA2.out _ BC.out).mono ?_; rintro e wn ⟨rfl, hb⟩; have M1 := True.intro; have D0 := Lib.hid (D0.out.under hb D0.out.lt); have D1 := Lib.hid (D1.out.under hb D1.out.lt); have BC := Lib.hid (BC.out.trans (hb.mono BC.out.size)); clear hb e0 e1 e2 e3 e4 el o0 o1 o2 o3 o4 ol; obtain ⟨e0, e1, e2, e3, e4⟩ := cells5 D0.out; have el := D0.out.lt; obtain ⟨o0, o1, o2, o3, o4⟩ := cells5 D1.out; have ol := D1.out.lt))
  cases p1
  · go_wp2_with (first
      | (go_at_call 13; refine (HSR.out _ BC.out).mono ?_; rintro e wn ⟨rfl, hb⟩; have D0 := Lib.hid (D0.out.under hb D0.out.lt); have D1 := Lib.hid (D1.out.under hb D1.out.lt); have BC := Lib.hid (BC.out.trans (hb.mono BC.out.size)); clear hb e0 e1 e2 e3 e4 el o0 o1 o2 o3 o4 ol; obtain ⟨e0, e1, e2, e3, e4⟩ := cells5 D0.out; have el := D0.out.lt; obtain ⟨o0, o1, o2, o3, o4⟩ := cells5 D1.out; have ol := D1.out.lt)
      | (go_at_call 12; refine (HMA.out _ BC.out).mono ?_; rintro e wn ⟨rfl, hb⟩; have D0 := Lib.hid (D0.out.under hb D0.out.lt); have D1 := Lib.hid (D1.out.under hb D1.out.lt); have BC := Lib.hid (BC.out.trans (hb.mono BC.out.size)); clear hb e0 e1 e2 e3 e4 el o0 o1 o2 o3 o4 ol; obtain ⟨e0, e1, e2, e3, e4⟩ := cells5 D0.out; have el := D0.out.lt; obtain ⟨o0, o1, o2, o3, o4⟩ := cells5 D1.out; have ol := D1.out.lt)
      | (go_at_call 15; have hno := S1; refine (HS2.out _ BC.out).mono ?_; rintro e wn ⟨rfl, hb⟩; have D0 := Lib.hid (D0.out.under hb D0.out.lt); have D1 := Lib.hid (D1.out.under hb D1.out.lt); have BC := Lib.hid (BC.out.trans (hb.mono BC.out.size)); clear hb e0 e1 e2 e3 e4 el o0 o1 o2 o3 o4 ol; obtain ⟨e0, e1, e2, e3, e4⟩ := cells5 D0.out; have el := D0.out.lt; obtain ⟨o0, o1, o2, o3, o4⟩ := cells5 D1.out; have ol := D1.out.lt)
      | (go_at_call 15; refine (HS1.out _ BC.out).mono ?_; rintro e wn ⟨rfl, hb⟩; have S1 := True.intro; have D0 := Lib.hid (D0.out.under hb D0.out.lt); have D1 := Lib.hid (D1.out.under hb D1.out.lt); have BC := Lib.hid (BC.out.trans (hb.mono BC.out.size)); clear hb e0 e1 e2 e3 e4 el o0 o1 o2 o3 o4 ol; obtain ⟨e0, e1, e2, e3, e4⟩ := cells5 D0.out; have el := D0.out.lt; obtain ⟨o0, o1, o2, o3, o4⟩ := cells5 D1.out; have ol := D1.out.lt))
    go_ret
    exact ⟨rfl, BC.out⟩
  cases p2
  · go_wp2_with (first
      | (go_at_call 13; refine (HSR.out _ BC.out).mono ?_; rintro e wn ⟨rfl, hb⟩; have D0 := Lib.hid (D0.out.under hb D0.out.lt); have D1 := Lib.hid (D1.out.under hb D1.out.lt); have BC := Lib.hid (BC.out.trans (hb.mono BC.out.size)); clear hb e0 e1 e2 e3 e4 el o0 o1 o2 o3 o4 ol; obtain ⟨e0, e1, e2, e3, e4⟩ := cells5 D0.out; have el := D0.out.lt; obtain ⟨o0, o1, o2, o3, o4⟩ := cells5 D1.out; have ol := D1.out.lt)
      | (go_at_call 12; refine (HMA.out _ BC.out).mono ?_; rintro e wn ⟨rfl, hb⟩; have D0 := Lib.hid (D0.out.under hb D0.out.lt); have D1 := Lib.hid (D1.out.under hb D1.out.lt); have BC := Lib.hid (BC.out.trans (hb.mono BC.out.size)); clear hb e0 e1 e2 e3 e4 el o0 o1 o2 o3 o4 ol; obtain ⟨e0, e1, e2, e3, e4⟩ := cells5 D0.out; have el := D0.out.lt; obtain ⟨o0, o1, o2, o3, o4⟩ := cells5 D1.out; have ol := D1.out.lt)
      | (go_at_call 15; have hno := S1; refine (HS2.out _ BC.out).mono ?_; rintro e wn ⟨rfl, hb⟩; have D0 := Lib.hid (D0.out.under hb D0.out.lt); have D1 := Lib.hid (D1.out.under hb D1.out.lt); have BC := Lib.hid (BC.out.trans (hb.mono BC.out.size)); clear hb e0 e1 e2 e3 e4 el o0 o1 o2 o3 o4 ol; obtain ⟨e0, e1, e2, e3, e4⟩ := cells5 D0.out; have el := D0.out.lt; obtain ⟨o0, o1, o2, o3, o4⟩ := cells5 D1.out; have ol := D1.out.lt)
      | (go_at_call 15; refine (HS1.out _ BC.out).mono ?_; rintro e wn ⟨rfl, hb⟩; have S1 := True.intro; have D0 := Lib.hid (D0.out.under hb D0.out.lt); have D1 := Lib.hid (D1.out.under hb D1.out.lt); have BC := Lib.hid (BC.out.trans (hb.mono BC.out.size)); clear hb e0 e1 e2 e3 e4 el o0 o1 o2 o3 o4 ol; obtain ⟨e0, e1, e2, e3, e4⟩ := cells5 D0.out; have el := D0.out.lt; obtain ⟨o0, o1, o2, o3, o4⟩ := cells5 D1.out; have ol := D1.out.lt))
    go_ret
    exact ⟨rfl, BC.out⟩
  cases s
  · go_wp2_with (first
      | (go_at_call 13; refine (HSR.out _ BC.out).mono ?_; rintro e wn ⟨rfl, hb⟩; have D0 := Lib.hid (D0.out.under hb D0.out.lt); have D1 := Lib.hid (D1.out.under hb D1.out.lt); have BC := Lib.hid (BC.out.trans (hb.mono BC.out.size)); clear hb e0 e1 e2 e3 e4 el o0 o1 o2 o3 o4 ol; obtain ⟨e0, e1, e2, e3, e4⟩ := cells5 D0.out; have el := D0.out.lt; obtain ⟨o0, o1, o2, o3, o4⟩ := cells5 D1.out; have ol := D1.out.lt)
      | (go_at_call 12; refine (HMA.out _ BC.out).mono ?_; rintro e wn ⟨rfl, hb⟩; have D0 := Lib.hid (D0.out.under hb D0.out.lt); have D1 := Lib.hid (D1.out.under hb D1.out.lt); have BC := Lib.hid (BC.out.trans (hb.mono BC.out.size)); clear hb e0 e1 e2 e3 e4 el o0 o1 o2 o3 o4 ol; obtain ⟨e0, e1, e2, e3, e4⟩ := cells5 D0.out; have el := D0.out.lt; obtain ⟨o0, o1, o2, o3, o4⟩ := cells5 D1.out; have ol := D1.out.lt)
      | (go_at_call 15; have hno := S1; refine (HS2.out _ BC.out).mono ?_; rintro e wn ⟨rfl, hb⟩; have D0 := Lib.hid (D0.out.under hb D0.out.lt); have D1 := Lib.hid (D1.out.under hb D1.out.lt); have BC := Lib.hid (BC.out.trans (hb.mono BC.out.size)); clear hb e0 e1 e2 e3 e4 el o0 o1 o2 o3 o4 ol; obtain ⟨e0, e1, e2, e3, e4⟩ := cells5 D0.out; have el := D0.out.lt; obtain ⟨o0, o1, o2, o3, o4⟩ := cells5 D1.out; have ol := D1.out.lt)
      | (go_at_call 15; refine (HS1.out _ BC.out).mono ?_; rintro e wn ⟨rfl, hb⟩; have S1 := True.intro; have D0 := Lib.hid (D0.out.under hb D0.out.lt); have D1 := Lib.hid (D1.out.under hb D1.out.lt); have BC := Lib.hid (BC.out.trans (hb.mono BC.out.size)); clear hb e0 e1 e2 e3 e4 el o0 o1 o2 o3 o4 ol; obtain ⟨e0, e1, e2, e3, e4⟩ := cells5 D0.out; have el := D0.out.lt; obtain ⟨o0, o1, o2, o3, o4⟩ := cells5 D1.out; have ol := D1.out.lt))
    go_ret
    exact ⟨rfl, BC.out⟩
  go_wp2_with (first
    | (go_at_call 13; refine (HSR.out _ BC.out).mono ?_; rintro e wn ⟨rfl, hb⟩; have D0 := Lib.hid (D0.out.under hb D0.out.lt); have D1 := Lib.hid (D1.out.under hb D1.out.lt); have BC := Lib.hid (BC.out.trans (hb.mono BC.out.size)); clear hb e0 e1 e2 e3 e4 el o0 o1 o2 o3 o4 ol; obtain ⟨e0, e1, e2, e3, e4⟩ := cells5 D0.out; have el := D0.out.lt; obtain ⟨o0, o1, o2, o3, o4⟩ := cells5 D1.out; have ol := D1.out.lt)
    | (go_at_call 12; refine (HMA.out _ BC.out).mono ?_; rintro e wn ⟨rfl, hb⟩; have D0 := Lib.hid (D0.out.under hb D0.out.lt); have D1 := Lib.hid (D1.out.under hb D1.out.lt); have BC := Lib.hid (BC.out.trans (hb.mono BC.out.size)); clear hb e0 e1 e2 e3 e4 el o0 o1 o2 o3 o4 ol; obtain ⟨e0, e1, e2, e3, e4⟩ := cells5 D0.out; have el := D0.out.lt; obtain ⟨o0, o1, o2, o3, o4⟩ := cells5 D1.out; have ol := D1.out.lt)
    | (go_at_call 15; have hno := S1; refine (HS2.out _ BC.out).mono ?_; rintro e wn ⟨rfl, hb⟩; have D0 := Lib.hid (D0.out.under hb D0.out.lt); have D1 := Lib.hid (D1.out.under hb D1.out.lt); have BC := Lib.hid (BC.out.trans (hb.mono BC.out.size)); clear hb e0 e1 e2 e3 e4 el o0 o1 o2 o3 o4 ol; obtain ⟨e0, e1, e2, e3, e4⟩ := cells5 D0.out; have el := D0.out.lt; obtain ⟨o0, o1, o2, o3, o4⟩ := cells5 D1.out; have ol := D1.out.lt)
    | (go_at_call 15; refine (HS1.out _ BC.out).mono ?_; rintro e wn ⟨rfl, hb⟩; have S1 := True.intro; have D0 := Lib.hid (D0.out.under hb D0.out.lt); have D1 := Lib.hid (D1.out.under hb D1.out.lt); have BC := Lib.hid (BC.out.trans (hb.mono BC.out.size)); clear hb e0 e1 e2 e3 e4 el o0 o1 o2 o3 o4 ol; obtain ⟨e0, e1, e2, e3, e4⟩ := cells5 D0.out; have el := D0.out.lt; obtain ⟨o0, o1, o2, o3, o4⟩ := cells5 D1.out; have ol := D1.out.lt))
  go_ret
  exact ⟨rfl, BC.out⟩
end Go.Proofs.YtjeldfipipkfiaaGreat
