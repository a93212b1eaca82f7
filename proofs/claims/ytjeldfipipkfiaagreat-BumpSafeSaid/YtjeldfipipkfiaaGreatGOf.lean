/- The contract of bump.Of; memory: two rows of interfaces that are few. -/
import Derived.Test.YtjeldfipipkfiaaGreatChgV
import Derived.Test.YtjeldfipipkfiaaGreatFewC
namespace Go.Proofs.YtjeldfipipkfiaaGreat
open Go.RowKit
set_option linter.unusedSimpArgs false
set_option linter.unusedVariables false
def bigB (c : Chg) : Bool := c.kind == 1 || c.kind == 2
def ofF (l : List Chg) : Int := if l.any bigB then 3 else if l.isEmpty then 1 else 2
theorem ofF_big {l : List Chg} {k : Nat} (hk : k < l.length) (h : bigB l[k] = true) : ofF l = 3 := by
  rw [ofF, if_pos]
  exact List.any_eq_true.2 ⟨_, List.getElem_mem hk, h⟩
theorem ofF_small {l : List Chg} (h : ∀ i (hi : i < l.length), bigB l[i] = false) : ofF l = if l.length = 0 then 1 else 2 := by
  have : l.any bigB = false := by
    rw [List.any_eq_false]
    intro x hx
    obtain ⟨i, hi, rfl⟩ := List.getElem_of_mem hx
    simp [h i hi]
  rw [ofF, this]
  cases l <;> simp
theorem chgF_len {a b : List If} (hl : a.length ≤ 1000) (hl' : b.length ≤ 1000) (hfa : a.all fewX = true) (hfb : b.all fewX = true) : (chgF a b).length ≤ 2000 * 800 := by
  have hU := unionN_len (a.map If.mod) (b.map If.mod)
  rw [List.length_map, List.length_map] at hU
  have h := flatMap_le (f := modF a b) (K := 800) (fun m => by
    have e1 := first_few hfa m
    have e2 := first_few hfb m
    have e3 := rowsF_len m ((firstIface a m).getD zIf).types ((firstIface b m).getD zIf).types true
    have e4 := rowsF_len m ((firstIface a m).getD zIf).vals ((firstIface b m).getD zIf).vals false
    rw [modF, List.length_append]; omega) (unionN (a.map If.mod) (b.map If.mod))
  have : (unionN (a.map If.mod) (b.map If.mod)).length * 800 ≤ 2000 * 800 := Nat.mul_le_mul_right _ (by omega)
  exact Nat.le_trans h this
theorem flatC_get : ∀ (l : List Chg) (i : Nat) (h : i < l.length) (j : Nat), j < 4 → (flatC l)[i * 4 + j]? = l[i].cells[j]?
  | [], i, h, _, _ => by simp at h
  | d :: l, 0, _, j, hj => by
    simp only [flatC, List.flatMap_cons, Nat.zero_mul, Nat.zero_add, List.getElem_cons_zero]
    rw [List.getElem?_append_left (by simpa [Chg.cells] using hj)]
  | d :: l, i + 1, h, j, hj => by
    have h' : i < l.length := by simpa using h
    have ih := flatC_get l i h' j hj
    simp only [flatC, List.flatMap_cons, List.getElem_cons_succ] at ih ⊢
    rw [List.getElem?_append_right (by simp [Chg.cells]; omega), ← ih]
    congr 1
    simp [Chg.cells]; omega
def ChgAt (w : World) (v : Value) (l : List Chg) : Prop :=
  ∃ p cap, v = .slice p l.length cap ∧ (0 < l.length → ∃ b o, p = some ⟨b, o, none⟩ ∧ b < w.heap.size ∧ ∀ i (h : i < l.length) (j : Nat), j < 4 → w.cell? ⟨b, o + i * 4 + j, none⟩ = l[i].cells[j]?)
theorem ChgAt.own {w : World} {base : Nat} {v : Value} {l : List Chg} (h : w.ownsRow base 83 4 v l.length (flatC l)) : ChgAt w v l := by
  obtain ⟨-, ⟨rfl, hn⟩ | ⟨g, cap, cur, rfl, hb, hh, hnc, hcm, hsz, htk⟩⟩ := h
  · exact ⟨none, 0, by rw [hn], fun h => by omega⟩
  · refine ⟨_, cap, rfl, fun _ => ⟨g, 0, rfl, (Array.getElem?_eq_some_iff.1 hh).1, fun i hi j hj => ?_⟩⟩
    rw [← flatC_get l i hi j hj, ← htk, List.getElem?_take, if_pos (by omega)]
    simp [World.cell?, hh]
theorem ChgAt.under {w w' : World} {v : Value} {l : List Chg} (h : ChgAt w v l) (hb : Below w.heap.size w w') : ChgAt w' v l := by
  obtain ⟨p, cap, rfl, h⟩ := h
  refine ⟨p, cap, rfl, fun h0 => ?_⟩
  obtain ⟨b, o, rfl, hlt, g⟩ := h h0
  exact ⟨b, o, rfl, Nat.lt_of_lt_of_le hlt hb.size, fun i hi j hj => (hb.cell (p := ⟨b, _, none⟩) hlt).trans (g i hi j hj)⟩
set_option maxRecDepth 100000 in
set_option maxHeartbeats 8000000 in
theorem ofNo_c (A A' : Option Addr) (c c' B : Nat) (a b : List If) (w : World) (h1 : IfsAt w B A a) (h2 : IfsAt w B A' b) (hB : B ≤ w.heap.size) (hl : a.length ≤ 1000) (hl' : b.length ≤ 1000) (hf : fairB a b = false) :
    Calls Tryz.prog 18 #[.slice A a.length c, .slice A' b.length c'] w fun e w' => e = .returned (.tuple #[.int .i64 0, .iface 62 (.int .i64 1)]) ∧ Below w.heap.size w w' := by
  have HC := Lib.hid (unfair_c A A' c c' B a b w h1 h2 hB hl hl' hf)
  clear h1 h2 hf
  go_enter Tryz.func18, Tryz.ntmps18
  go_wp2_with (go_at_call 36; refine HC.out.mono ?_; rintro e w1 ⟨rfl, hb⟩)
  refine bodyPost_ret (by simp [results, Tryz.results18, go_sem]; try rfl) rfl ?_
  exact ⟨rfl, hb⟩
set_option maxRecDepth 100000 in
set_option maxHeartbeats 8000000 in
theorem ofYes_c (A A' : Option Addr) (c c' B : Nat) (a b : List If) (w : World) (h1 : IfsAt w B A a) (h2 : IfsAt w B A' b) (hB : B ≤ w.heap.size) (hl : a.length ≤ 1000) (hl' : b.length ≤ 1000) (hf : fairB a b = true) (hfa : a.all fewX = true) (hfb : b.all fewX = true) :
    Calls Tryz.prog 18 #[.slice A a.length c, .slice A' b.length c'] w fun e w' => e = .returned (.tuple #[.int .i64 (ofF (chgF a b)), .nilIface]) ∧ Below w.heap.size w w' := by
  have HC := Lib.hid (changes_c A A' c c' B a b w h1 h2 hB hl hl' hf hfa hfb)
  obtain ⟨R, hR⟩ : ∃ R, chgF a b = R := ⟨_, rfl⟩
  have hRl : R.length ≤ 1600000 := by rw [← hR]; exact chgF_len hl hl' hfa hfb
  rw [hR] at HC
  simp only [hR]
  obtain ⟨q, hq⟩ : ∃ q, ofF R = q := ⟨_, rfl⟩
  simp only [hq]
  have HQ := Lib.hid hq
  clear h1 h2 hf hfa hfb hR hq
  go_enter Tryz.func18, Tryz.ntmps18
  go_wp2_with fail
  refine HC.out.mono ?_
  rintro e w1 ⟨v, rfl, hown, hb⟩
  have B1 := Lib.hid hb
  obtain ⟨p, cap, rfl, hc⟩ := ChgAt.own hown
  have HCC := Lib.hid hc
  clear hown hb hc
  go_wp2_with fail
  go_loopw [8, 22] (fun o i wk => ∃ k : Nat, i = .int .i64 k ∧ k ≤ R.length ∧ Below w1.heap.size w1 wk ∧ (∃ ov : Int, o = .int .i64 ov ∧ Hid (ov = if k = 0 then 1 else 2)) ∧ ∀ i (h : i < R.length), i < k → bigB R[i] = false) (fun _ i _ => R.length - (intOf i).toNat)
  case atStart => exact ⟨0, rfl, Nat.zero_le _, Below.refl _ _, ⟨1, rfl, Lib.hid rfl⟩, fun i _ hi => absurd hi (by omega)⟩
  case round =>
    obtain ⟨k, rfl, hk, hbk, ⟨ov, rfl, HOV⟩, hall⟩ := hrel
    have HB := Lib.hid hbk
    have HA := Lib.hid hall
    have AB := Lib.hid (B1.out.trans (hbk.mono B1.out.size))
    clear hbk hall
    by_cases hlt : k < R.length
    · have hltI : (k : Int) < (R.length : Int) := by omega
      obtain ⟨b1, o1, rfl, hlb, hc⟩ := HCC.out (by omega)
      obtain ⟨x, hx⟩ : ∃ x, R[k] = x := ⟨_, rfl⟩
      have c0 := hc k hlt 0 (by decide)
      have c1 := hc k hlt 1 (by decide)
      have c2 := hc k hlt 2 (by decide)
      have c3 := hc k hlt 3 (by decide)
      rw [hx, ← HB.out.cell (p := ⟨b1, _, none⟩) hlb] at c0 c1 c2 c3
      simp [Chg.cells] at c0 c1 c2 c3
      have hlw := Nat.lt_of_lt_of_le hlb HB.out.size
      have HX := Lib.hid hx
      clear hx hc
      by_cases e1 : x.kind = 1
      · have hr := HQ.out.symm.trans (ofF_big hlt (by rw [HX.out, bigB, e1]; rfl))
        subst hr
        go_wp2_with fail
        all_goals first
          | (exfalso; omega)
          | (refine bodyPost_ret (by simp [results, Tryz.results18, go_sem]; try rfl) rfl ?_
             exact ⟨rfl, AB.out.alloc AB.out.size _⟩)
      by_cases e2 : x.kind = 2
      · have hr := HQ.out.symm.trans (ofF_big hlt (by rw [HX.out, bigB, e2]; rfl))
        subst hr
        go_wp2_with fail
        all_goals first
          | (exfalso; omega)
          | (refine bodyPost_ret (by simp [results, Tryz.results18, go_sem]; try rfl) rfl ?_
             exact ⟨rfl, AB.out.alloc AB.out.size _⟩)
      have hbad : bigB R[k] = false := by rw [HX.out, bigB]; simp [e1, e2]
      have HBAD := Lib.hid hbad
      clear hbad
      go_wp2_with fail
      all_goals first
        | (exfalso; omega)
        | (exfalso; simp_all; done)
        | (exact ⟨⟨k + 1, by go_num, by omega, HB.out.alloc HB.out.size _, ⟨2, rfl, Lib.hid (by rw [if_neg (by omega)])⟩, fun i hi hik => by
              by_cases e : i = k
              · subst e; exact HBAD.out
              · exact HA.out i hi (by omega)⟩, by simp [intOf]; omega⟩)
    · obtain rfl : k = R.length := by omega
      have hltI : ¬ (R.length : Int) < (R.length : Int) := by omega
      have hr := HQ.out.symm.trans (ofF_small fun i hi => HA.out i hi hi)
      have hov : ov = q := HOV.out.trans hr.symm
      subst hov
      clear hr
      go_wp2_with fail
      refine bodyPost_ret (by simp [results, Tryz.results18, go_sem]; try rfl) rfl ?_
      exact ⟨rfl, AB.out⟩
end Go.Proofs.YtjeldfipipkfiaaGreat
namespace Go.Proofs.YtjeldfipipkfiaaGreat
open Go.RowKit
set_option linter.unusedSimpArgs false
set_option linter.unusedVariables false
def look (l : List If) (m : ByteArray) (o : Bool) (n : ByteArray) : Option Nm :=
  firstNamed (if o = true then ((firstIface l m).getD zIf).types else ((firstIface l m).getD zIf).vals) n
theorem firstNamed_mem {l : List Nm} {n : ByteArray} : n ∈ l.map Nm.name ↔ (firstNamed l n).isSome = true := by
  rw [firstNamed, List.find?_isSome, List.mem_map]
  constructor
  · rintro ⟨x, hx, rfl⟩
    exact ⟨x, hx, ba_yes rfl⟩
  · rintro ⟨x, hx, h⟩
    rw [ba_eq] at h
    exact ⟨x, hx, by simpa using h⟩
theorem firstIface_mem {l : List If} {n : ByteArray} : n ∈ l.map If.mod ↔ (firstIface l n).isSome = true := by
  rw [firstIface, List.find?_isSome, List.mem_map]
  constructor
  · rintro ⟨x, hx, rfl⟩
    exact ⟨x, hx, ba_yes rfl⟩
  · rintro ⟨x, hx, h⟩
    rw [ba_eq] at h
    exact ⟨x, hx, by simpa using h⟩
theorem look_mod {l : List If} {m n : ByteArray} {o : Bool} (h : (look l m o n).isSome = true) : m ∈ l.map If.mod := by
  rw [firstIface_mem]
  cases hf : firstIface l m with
  | some x => rfl
  | none =>
    rw [look, hf] at h
    cases o <;> simp [zIf, firstNamed] at h
theorem rowsF_mem {m : ByteArray} {a b : List Nm} {o : Bool} {c : Chg} : c ∈ rowsF m a b o ↔ c.mod = m ∧ c.ofType = o ∧ ((firstNamed a c.name).isSome = true ∨ (firstNamed b c.name).isSome = true) ∧ c.kind = kindO (firstNamed a c.name) (firstNamed b c.name) o ∧ 0 < c.kind := by
  rw [rowsF, List.mem_flatMap]
  constructor
  · rintro ⟨n, hn, hc⟩
    rw [unionN_mem, firstNamed_mem, firstNamed_mem] at hn
    rw [oneF] at hc
    split at hc
    · rename_i hk
      simp only [List.mem_singleton] at hc
      subst hc
      exact ⟨rfl, rfl, hn, rfl, hk⟩
    · cases hc
  · rintro ⟨rfl, rfl, hn, hk, h0⟩
    refine ⟨c.name, by rw [unionN_mem, firstNamed_mem, firstNamed_mem]; exact hn, ?_⟩
    rw [oneF, kindF, ← hk, if_pos h0]
    simp
theorem chg_mem {a b : List If} {c : Chg} : c ∈ chgF a b ↔ ((look a c.mod c.ofType c.name).isSome = true ∨ (look b c.mod c.ofType c.name).isSome = true) ∧ c.kind = kindO (look a c.mod c.ofType c.name) (look b c.mod c.ofType c.name) c.ofType ∧ 0 < c.kind := by
  rw [chgF, List.mem_flatMap]
  constructor
  · rintro ⟨m, hm, hc⟩
    rw [modF, List.mem_append, rowsF_mem, rowsF_mem] at hc
    rcases hc with ⟨rfl, ho, hn, hk, h0⟩ | ⟨rfl, ho, hn, hk, h0⟩
    · rw [look, look, ho]; exact ⟨hn, hk, h0⟩
    · rw [look, look, ho]; exact ⟨hn, hk, h0⟩
  · rintro ⟨hn, hk, h0⟩
    refine ⟨c.mod, ?_, ?_⟩
    · rw [unionN_mem]
      rcases hn with hn | hn
      · exact .inl (look_mod hn)
      · exact .inr (look_mod hn)
    · rw [modF, List.mem_append, rowsF_mem, rowsF_mem]
      cases ho : c.ofType
      · rw [look, look, ho] at hn hk; exact .inr ⟨rfl, rfl, hn, hk, h0⟩
      · rw [look, look, ho] at hn hk; exact .inl ⟨rfl, rfl, hn, hk, h0⟩
theorem named_plain {p : ByteArray → Bool} {l : List Nm} (h : namedB p l = true) {x : Nm} (hx : x ∈ l) : PlainB x.ty = true := by
  obtain ⟨i, hi, rfl⟩ := List.getElem_of_mem hx
  rw [namedB, List.all_eq_true] at h
  have := h i (List.mem_range.2 hi)
  rw [nmOk, dif_pos hi] at this
  simp only [Bool.and_eq_true] at this
  exact this.2.2
theorem may_iface {l : List If} (h : mayP l = true) {x : If} (hx : x ∈ l) : imayB x = true := by
  obtain ⟨i, hi, rfl⟩ := List.getElem_of_mem hx
  rw [mayP, Bool.and_eq_true, List.all_eq_true] at h
  have := h.1 i (List.mem_range.2 hi)
  rw [ipOk, dif_pos hi] at this
  simp only [Bool.and_eq_true] at this
  exact this.1
theorem look_plain {l : List If} (h : mayP l = true) {m n : ByteArray} {o : Bool} {x : Nm} (hx : look l m o n = some x) : PlainB x.ty = true := by
  rw [look] at hx
  have hm := List.mem_of_find?_eq_some hx
  cases hf : firstIface l m with
  | none => rw [hf] at hm; cases o <;> simp [zIf] at hm
  | some y =>
    have hy := may_iface h (List.mem_of_find?_eq_some hf)
    rw [imayB] at hy
    simp only [Bool.and_eq_true] at hy
    rw [hf] at hm
    cases o
    · exact named_plain hy.2.2.2.2.2 hm
    · exact named_plain hy.2.2.2.2.1 hm
theorem same_plain {a b : Ty} (ha : PlainB a = true) (hb : PlainB b = true) : sameB a b = true ↔ a = b := by
  rw [sameB, plain_may ha, plain_may hb, Bool.true_and, Bool.true_and, alike_iff]
theorem subB_plain {a b : Ty} (ha : PlainB a = true) (hb : PlainB b = true) : SubB a b = subF 32 a b := by rw [SubB, ha, hb]; simp
theorem subB_trans {a b c : Ty} (ha : PlainB a = true) (hb : PlainB b = true) (hc : PlainB c = true) (h1 : SubB a b = true) (h2 : SubB b c = true) : SubB a c = true := by
  rw [subB_plain ha hb] at h1
  rw [subB_plain hb hc] at h2
  rw [subB_plain ha hc]
  exact sub_trans 32 a b c (plain_may ha) (plain_may hb) (plain_may hc) (may_deep (plain_may ha)) (may_deep (plain_may hb)) (may_deep (plain_may hc)) h1 h2
theorem turn_two {a b : Ty} {o : Bool} (ha : PlainB a = true) (hb : PlainB b = true) : turnF a b o = 2 ↔ a ≠ b ∧ (o = true ∨ SubB b a = false) := by
  rw [ne_eq, ← same_plain ha hb, turnF]
  by_cases h : sameB a b = true
  · rw [if_pos h]
    constructor
    · intro e; cases e
    · intro e; exact absurd h e.1
  · rw [if_neg h]
    by_cases h2 : o = true ∨ SubB b a = false
    · rw [if_pos h2]; exact ⟨fun _ => ⟨h, h2⟩, fun _ => rfl⟩
    · rw [if_neg h2]
      constructor
      · intro e; cases e
      · intro e; exact absurd e.2 h2
theorem of_big {l : List Chg} : ofF l = 3 ↔ ∃ c ∈ l, c.kind = 1 ∨ c.kind = 2 := by
  rw [ofF]
  by_cases h : l.any bigB = true
  · rw [if_pos h]
    obtain ⟨c, hc, hb⟩ := List.any_eq_true.1 h
    simp [bigB] at hb
    exact ⟨fun _ => ⟨c, hc, hb⟩, fun _ => rfl⟩
  · rw [if_neg h]
    constructor
    · intro e; split at e <;> cases e
    · rintro ⟨c, hc, hb⟩
      exact absurd (List.any_eq_true.2 ⟨c, hc, by simpa [bigB] using hb⟩) h
theorem big_at {a b : List If} {m n : ByteArray} {o : Bool} {k : Int} (hn : (look a m o n).isSome = true ∨ (look b m o n).isSome = true) (hk : kindO (look a m o n) (look b m o n) o = k) (h : k = 1 ∨ k = 2) : ofF (chgF a b) = 3 :=
  of_big.2 ⟨⟨k, m, n, o⟩, chg_mem.2 ⟨hn, hk.symm, by show 0 < k; omega⟩, h⟩
end Go.Proofs.YtjeldfipipkfiaaGreat
namespace Go.Proofs.YtjeldfipipkfiaaGreat
open Go.RowKit
set_option linter.unusedSimpArgs false
set_option linter.unusedVariables false
def OfR (a b : List If) (n : Int) (ev : Value) : Prop := (fairB a b = true ∧ n = ofF (chgF a b) ∧ ev = .nilIface) ∨ (fairB a b = false ∧ n = 0 ∧ ev = .iface 62 (.int .i64 1))
theorem of_c' (A A' : Option Addr) (c c' B : Nat) (a b : List If) (hfa : FewI a = true) (hfb : FewI b = true) : ∃ n ev, OfR a b n ev ∧ ∀ w, IfsAt w B A a → IfsAt w B A' b → B ≤ w.heap.size →
    Calls Tryz.prog 18 #[.slice A a.length c, .slice A' b.length c'] w fun e w' => e = .returned (.tuple #[.int .i64 n, ev]) ∧ Below w.heap.size w w' := by
  rw [FewI, Bool.and_eq_true, decide_eq_true_eq] at hfa hfb
  obtain ⟨la, hfa⟩ := hfa
  obtain ⟨lb, hfb⟩ := hfb
  cases hf : fairB a b
  · exact ⟨0, _, .inr ⟨hf, rfl, rfl⟩, fun w h1 h2 hB => ofNo_c A A' c c' B a b w h1 h2 hB (by omega) (by omega) hf⟩
  · exact ⟨_, _, .inl ⟨hf, rfl, rfl⟩, fun w h1 h2 hB => ofYes_c A A' c c' B a b w h1 h2 hB (by omega) (by omega) hf hfa hfb⟩
theorem ofR_err {a b : List If} {n : Int} {ev : Value} (h : OfR a b n ev) : ev = .nilIface ∨ ev = .iface 62 (.int .i64 1) := by
  rcases h with ⟨-, -, h⟩ | ⟨-, -, h⟩
  · exact .inl h
  · exact .inr h
theorem ofR_yes {a b : List If} {n : Int} (h : OfR a b n .nilIface) : fairB a b = true ∧ n = ofF (chgF a b) := by
  rcases h with ⟨h1, h2, -⟩ | ⟨-, -, h⟩
  · exact ⟨h1, h2⟩
  · cases h
end Go.Proofs.YtjeldfipipkfiaaGreat
