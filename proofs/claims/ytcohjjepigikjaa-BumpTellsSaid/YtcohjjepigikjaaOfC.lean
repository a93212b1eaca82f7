/- The contract of bump.Of; memory: two rows of interfaces that are few. -/
import Derived.Test.YtcohjjepigikjaaChgV
namespace Go.Proofs.Ytcohjjepigikjaa
open Go.RowKit
set_option linter.unusedSimpArgs false
set_option linter.unusedVariables false
def bigB (c : Chg) : Bool := c.kind == 1 || c.kind == 2
/-- the bump of changes -/
def ofF (l : List Chg) : Int := if l.any bigB then 3 else if l.isEmpty then 1 else 2
theorem ofF_big {l : List Chg} {k : Nat} (hk : k < l.length) (h : bigB l[k] = true) : ofF l = 3 := by
  rw [ofF, if_pos]
  exact List.any_eq_true.2 ⟨_, List.getElem_mem hk, h⟩
theorem ofF_small {l : List Chg} (h : ∀ i (hi : i < l.length), bigB l[i] = false) : ofF l = if l.length = 0 then 1 else 2 := by
  have : l.any bigB = false := by
    rw [List.any_eq_false]
    intro x hx
    obtain ⟨i, hi, rfl⟩ := List.getElem_of_mem hx
    simp [h i hi]
  rw [ofF, this]
  cases l <;> simp
theorem chgF_len {a b : List If} (hl : a.length ≤ 1000) (hl' : b.length ≤ 1000) (hfa : a.all fewX = true) (hfb : b.all fewX = true) : (chgF a b).length ≤ 2000 * 800 := by
  have hU := unionN_len (a.map If.mod) (b.map If.mod)
  rw [List.length_map, List.length_map] at hU
  have h := flatMap_le (f := modF a b) (K := 800) (fun m => by
    have e1 := first_few hfa m
    have e2 := first_few hfb m
    have e3 := rowsF_len m ((firstIface a m).getD zIf).types ((firstIface b m).getD zIf).types true
    have e4 := rowsF_len m ((firstIface a m).getD zIf).vals ((firstIface b m).getD zIf).vals false
    rw [modF, List.length_append]; omega) (unionN (a.map If.mod) (b.map If.mod))
  have : (unionN (a.map If.mod) (b.map If.mod)).length * 800 ≤ 2000 * 800 := Nat.mul_le_mul_right _ (by omega)
  exact Nat.le_trans h this
theorem flatC_get : ∀ (l : List Chg) (i : Nat) (h : i < l.length) (j : Nat), j < 4 → (flatC l)[i * 4 + j]? = l[i].cells[j]?
  | [], i, h, _, _ => by simp at h
  | d :: l, 0, _, j, hj => by
    simp only [flatC, List.flatMap_cons, Nat.zero_mul, Nat.zero_add, List.getElem_cons_zero]
    rw [List.getElem?_append_left (by simpa [Chg.cells] using hj)]
  | d :: l, i + 1, h, j, hj => by
    have h' : i < l.length := by simpa using h
    have ih := flatC_get l i h' j hj
    simp only [flatC, List.flatMap_cons, List.getElem_cons_succ] at ih ⊢
    rw [List.getElem?_append_right (by simp [Chg.cells]; omega), ← ih]
    congr 1
    simp [Chg.cells]; omega
/-- a slice that reads as a row of changes -/
def ChgAt (w : World) (v : Value) (l : List Chg) : Prop :=
  ∃ p cap, v = .slice p l.length cap ∧ (0 < l.length → ∃ b o, p = some ⟨b, o, none⟩ ∧ b < w.heap.size ∧ ∀ i (h : i < l.length) (j : Nat), j < 4 → w.cell? ⟨b, o + i * 4 + j, none⟩ = l[i].cells[j]?)
theorem ChgAt.own {w : World} {base : Nat} {v : Value} {l : List Chg} (h : w.ownsRow base 48 4 v l.length (flatC l)) : ChgAt w v l := by
  obtain ⟨-, ⟨rfl, hn⟩ | ⟨g, cap, cur, rfl, hb, hh, hnc, hcm, hsz, htk⟩⟩ := h
  · exact ⟨none, 0, by rw [hn], fun h => by omega⟩
  · refine ⟨_, cap, rfl, fun _ => ⟨g, 0, rfl, (Array.getElem?_eq_some_iff.1 hh).1, fun i hi j hj => ?_⟩⟩
    rw [← flatC_get l i hi j hj, ← htk, List.getElem?_take, if_pos (by omega)]
    simp [World.cell?, hh]
theorem ChgAt.under {w w' : World} {v : Value} {l : List Chg} (h : ChgAt w v l) (hb : Below w.heap.size w w') : ChgAt w' v l := by
  obtain ⟨p, cap, rfl, h⟩ := h
  refine ⟨p, cap, rfl, fun h0 => ?_⟩
  obtain ⟨b, o, rfl, hlt, g⟩ := h h0
  exact ⟨b, o, rfl, Nat.lt_of_lt_of_le hlt hb.size, fun i hi j hj => (hb.cell (p := ⟨b, _, none⟩) hlt).trans (g i hi j hj)⟩
set_option maxRecDepth 100000 in
set_option maxHeartbeats 8000000 in
theorem ofNo_c (A A' : Option Addr) (c c' B : Nat) (a b : List If) (w : World) (h1 : IfsAt w B A a) (h2 : IfsAt w B A' b) (hB : B ≤ w.heap.size) (hl : a.length ≤ 1000) (hl' : b.length ≤ 1000) (hf : fairB a b = false) :
    Calls Try.prog 8 #[.slice A a.length c, .slice A' b.length c'] w fun e w' => e = .returned (.tuple #[.int .i64 0, .iface 33 (.int .i64 1)]) ∧ Below w.heap.size w w' := by
  have HC := Lib.hid (unfair_c A A' c c' B a b w h1 h2 hB hl hl' hf)
  clear h1 h2 hf
  go_enter Try.func8, Try.ntmps8
  go_wp2_with (go_at_call 7; refine HC.out.mono ?_; rintro e w1 ⟨rfl, hb⟩)
  refine bodyPost_ret (by simp [results, Try.results8, go_sem]; try rfl) rfl ?_
  exact ⟨rfl, hb⟩
set_option maxRecDepth 100000 in
set_option maxHeartbeats 8000000 in
theorem ofYes_c (A A' : Option Addr) (c c' B : Nat) (a b : List If) (w : World) (h1 : IfsAt w B A a) (h2 : IfsAt w B A' b) (hB : B ≤ w.heap.size) (hl : a.length ≤ 1000) (hl' : b.length ≤ 1000) (hf : fairB a b = true) (hfa : a.all fewX = true) (hfb : b.all fewX = true) :
    Calls Try.prog 8 #[.slice A a.length c, .slice A' b.length c'] w fun e w' => e = .returned (.tuple #[.int .i64 (ofF (chgF a b)), .nilIface]) ∧ Below w.heap.size w w' := by
  have HC := Lib.hid (changes_c A A' c c' B a b w h1 h2 hB hl hl' hf hfa hfb)
  obtain ⟨R, hR⟩ : ∃ R, chgF a b = R := ⟨_, rfl⟩
  have hRl : R.length ≤ 1600000 := by rw [← hR]; exact chgF_len hl hl' hfa hfb
  rw [hR] at HC
  simp only [hR]
  obtain ⟨q, hq⟩ : ∃ q, ofF R = q := ⟨_, rfl⟩
  simp only [hq]
  have HQ := Lib.hid hq
  clear h1 h2 hf hfa hfb hR hq
  go_enter Try.func8, Try.ntmps8
  go_wp2_with fail
  refine HC.out.mono ?_
  rintro e w1 ⟨v, rfl, hown, hb⟩
  have B1 := Lib.hid hb
  obtain ⟨p, cap, rfl, hc⟩ := ChgAt.own hown
  have HCC := Lib.hid hc
  clear hown hb hc
  go_wp2_with fail
  go_loopw [8, 22] (fun o i wk => ∃ k : Nat, i = .int .i64 k ∧ k ≤ R.length ∧ Below w1.heap.size w1 wk ∧ (∃ ov : Int, o = .int .i64 ov ∧ Hid (ov = if k = 0 then 1 else 2)) ∧ ∀ i (h : i < R.length), i < k → bigB R[i] = false) (fun _ i _ => R.length - (intOf i).toNat)
  case atStart => exact ⟨0, rfl, Nat.zero_le _, Below.refl _ _, ⟨1, rfl, Lib.hid rfl⟩, fun i _ hi => absurd hi (by omega)⟩
  case round =>
    obtain ⟨k, rfl, hk, hbk, ⟨ov, rfl, HOV⟩, hall⟩ := hrel
    have HB := Lib.hid hbk
    have HA := Lib.hid hall
    have AB := Lib.hid (B1.out.trans (hbk.mono B1.out.size))
    clear hbk hall
    by_cases hlt : k < R.length
    · have hltI : (k : Int) < (R.length : Int) := by omega
      obtain ⟨b1, o1, rfl, hlb, hc⟩ := HCC.out (by omega)
      obtain ⟨x, hx⟩ : ∃ x, R[k] = x := ⟨_, rfl⟩
      have c0 := hc k hlt 0 (by decide)
      have c1 := hc k hlt 1 (by decide)
      have c2 := hc k hlt 2 (by decide)
      have c3 := hc k hlt 3 (by decide)
      rw [hx, ← HB.out.cell (p := ⟨b1, _, none⟩) hlb] at c0 c1 c2 c3
      simp [Chg.cells] at c0 c1 c2 c3
      have hlw := Nat.lt_of_lt_of_le hlb HB.out.size
      have HX := Lib.hid hx
      clear hx hc
      by_cases e1 : x.kind = 1
      · have hr := HQ.out.symm.trans (ofF_big hlt (by rw [HX.out, bigB, e1]; rfl))
        subst hr
        go_wp2_with fail
        all_goals first
          | (exfalso; omega)
          | (refine bodyPost_ret (by simp [results, Try.results8, go_sem]; try rfl) rfl ?_
             exact ⟨rfl, AB.out.alloc AB.out.size _⟩)
      by_cases e2 : x.kind = 2
      · have hr := HQ.out.symm.trans (ofF_big hlt (by rw [HX.out, bigB, e2]; rfl))
        subst hr
        go_wp2_with fail
        all_goals first
          | (exfalso; omega)
          | (refine bodyPost_ret (by simp [results, Try.results8, go_sem]; try rfl) rfl ?_
             exact ⟨rfl, AB.out.alloc AB.out.size _⟩)
      have hbad : bigB R[k] = false := by rw [HX.out, bigB]; simp [e1, e2]
      have HBAD := Lib.hid hbad
      clear hbad
      go_wp2_with fail
      all_goals first
        | (exfalso; omega)
        | (exfalso; simp_all; done)
        | (exact ⟨⟨k + 1, by go_num, by omega, HB.out.alloc HB.out.size _, ⟨2, rfl, Lib.hid (by rw [if_neg (by omega)])⟩, fun i hi hik => by
              by_cases e : i = k
              · subst e; exact HBAD.out
              · exact HA.out i hi (by omega)⟩, by simp [intOf]; omega⟩)
    · obtain rfl : k = R.length := by omega
      have hltI : ¬ (R.length : Int) < (R.length : Int) := by omega
      have hr := HQ.out.symm.trans (ofF_small fun i hi => HA.out i hi hi)
      have hov : ov = q := HOV.out.trans hr.symm
      subst hov
      clear hr
      go_wp2_with fail
      refine bodyPost_ret (by simp [results, Try.results8, go_sem]; try rfl) rfl ?_
      exact ⟨rfl, AB.out⟩
end Go.Proofs.Ytcohjjepigikjaa
