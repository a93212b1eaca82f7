/- lex.Tokens: the tokens of a text, or the place at which nothing stands. -/
import Derived.Test.YtlpgkldialmofaaGreatDoorLex2
import Derived.Deep.DeepCutAuto
import Derived.Deep.Cut
namespace Go.Proofs.YtlpgkldialmofaaGreatDoor
open Go.RowKit
set_option linter.unusedSimpArgs false
set_option linter.unusedVariables false
theorem owns_keep {w w' : World} {base e size n : Nat} {v : Value} {xs : List Value} (h : w.ownsRow base e size v n xs) (hk : ∀ g, v.ownBlock = some g → w'.heap[g]? = w.heap[g]?) : w'.ownsRow base e size v n xs := by
  obtain ⟨h1, h2⟩ := h
  refine ⟨h1, ?_⟩
  rcases h2 with h2 | ⟨g, cap, cur, hv, hg, hh, r⟩
  · exact .inl h2
  · subst hv
    exact .inr ⟨g, cap, cur, rfl, hg, (hk g rfl).trans hh, r⟩
theorem owns_lt {w : World} {base e size n g : Nat} {v : Value} {xs : List Value} (h : w.ownsRow base e size v n xs) (hg : v.ownBlock = some g) : base ≤ g ∧ g < w.heap.size := by
  obtain ⟨-, ⟨rfl, -⟩ | ⟨g', cap, cur, rfl, hb, hh, -⟩⟩ := h
  · simp [Value.ownBlock] at hg
  · simp [Value.ownBlock] at hg
    subst hg
    exact ⟨hb, (Array.getElem?_eq_some_iff.1 hh).1⟩
theorem owns_under {w w' : World} {base e size n : Nat} {v : Value} {xs : List Value} (h : w.ownsRow base e size v n xs) (hb : Below w.heap.size w w') : w'.ownsRow base e size v n xs :=
  owns_keep h fun g hg => hb.block g (owns_lt h hg).2
theorem owns_base {w : World} {base e size n : Nat} {v : Value} {xs : List Value} (h : w.ownsRow base e size v n xs) : ∀ k, v.ownBlock = some k → base ≤ k := fun _ hk => (owns_lt h hk).1
theorem info_tok : ((Tryz.prog).info? 48).map (fun i => (i.zero, i.size, i.bytes)) = some (some (.agg #[.int .i64 0, .int .i64 0, .string { data := #[] }]), 3, 32) := by kernel_rfl
theorem drop_cons {s : ByteArray} {k : Nat} (hk : k < s.size) : s.data.toList.drop k = s[k] :: s.data.toList.drop (k + 1) := by
  have h : k < s.data.toList.length := by rw [len_data]; exact hk
  rw [List.drop_eq_getElem_cons h]
  rfl
theorem step_blank {s : ByteArray} {k : Nat} (hk : k < s.size) (h : blankC s[k] = true) : stepF (s.data.toList.drop k) = some (0, 1) := by
  rw [drop_cons hk, stepF_cons, if_pos h]
theorem step_hash {s : ByteArray} {k : Nat} (hk : k < s.size) (h : blankC s[k] = false) (h2 : s[k].toNat = 35) : stepF (s.data.toList.drop k) = some (0, runN lineC (s.data.toList.drop k)) := by
  rw [drop_cons hk, stepF_cons, if_neg (by simp [h]), if_pos h2]
theorem step_none {s : ByteArray} {k : Nat} (hk : k < s.size) (h : blankC s[k] = false) (h2 : ¬ s[k].toNat = 35) (h3 : (firstF (s.data.toList.drop k)).2 = 0) : stepF (s.data.toList.drop k) = none := by
  rw [drop_cons hk] at h3 ⊢
  rw [stepF_cons, if_neg (by simp [h]), if_neg h2, if_pos h3]
theorem step_tok {s : ByteArray} {k : Nat} (hk : k < s.size) (h : blankC s[k] = false) (h2 : ¬ s[k].toNat = 35) (h3 : ¬ (firstF (s.data.toList.drop k)).2 = 0) : stepF (s.data.toList.drop k) = some (firstF (s.data.toList.drop k)) := by
  rw [drop_cons hk] at h3 ⊢
  rw [stepF_cons, if_neg (by simp [h]), if_neg h2, if_neg h3]
theorem size_extract (s : ByteArray) (k : Nat) : (s.extract k s.size).size = s.size - k := by simp
def flatT (ts : List Tok) : List Value := ts.flatMap Tok.cells
theorem flatT_push (ts : List Tok) (t : Tok) : flatT (ts ++ [t]) = flatT ts ++ t.cells := by simp [flatT]
/-- what the loop holds -/
structure TokRel (w wr : World) (s : ByteArray) (sv : Value) (k : Nat) (ts : List Tok) : Prop where
  below : Below w.heap.size w wr
  row : wr.ownsRow w.heap.size 48 3 sv ts.length (flatT ts)
  len : ts.length ≤ k
  scan : AtScan s k ts
theorem TokRel.skip {w wr : World} {s : ByteArray} {sv : Value} {k n : Nat} {ts : List Tok} (h : TokRel w wr s sv k ts) (hk : k < s.size) (hs : stepF (s.data.toList.drop k) = some (0, n)) : TokRel w wr s sv (k + n) ts :=
  ⟨h.below, h.row, by have := h.len; omega, h.scan.skip hk hs⟩
theorem TokRel.push {w wr w1 w2 : World} {s : ByteArray} {sv v' : Value} {k n kd : Nat} {ts : List Tok} (h : TokRel w wr s sv k ts) (hk : k < s.size) (hs : stepF (s.data.toList.drop k) = some (kd, n)) (hd : kd ≠ 0) (hb : Below wr.heap.size wr w1)
    (hown : w2.ownsRow w.heap.size 48 3 v' (ts.length + 1) (flatT ts ++ [.int .i64 (kd : Nat), .int .i64 (k : Nat), .string (s.extract k (k + n))])) (hg : w1.grownBy w2 sv.ownBlock) :
    TokRel w w2 s v' (k + n) (ts ++ [⟨kd, k, s.extract k (k + n)⟩]) := by
  have hacc := h.below
  have hp := stepF_pos hs
  refine ⟨(hacc.trans (hb.mono hacc.size)).grown hg (by have := hacc.size; have := hb.size; omega) (owns_base h.row), ?_, by have := h.len; simp; omega, h.scan.tok hk hs hd⟩
  rw [flatT_push, List.length_append]
  exact hown
/-- what the call answers -/
def TokAns (s : ByteArray) (w : World) (e : Ending) (w' : World) : Prop :=
  Below w.heap.size w w' ∧ ((∃ ts sv, scanAll s = (ts, none) ∧ ts.length ≤ s.size ∧ e = .returned (.tuple #[sv, .nilIface]) ∧ w'.ownsRow w.heap.size 48 3 sv ts.length (flatT ts)) ∨
    (∃ ts k b, scanAll s = (ts, some k) ∧ k < s.size ∧ e = .returned (.tuple #[.slice none 0 0, .iface 69 (.pointer (some ⟨b, 0, none⟩))]) ∧ w.heap.size ≤ b ∧ Blk w' b #[.int .i64 (k : Nat), .iface 32 (.int .i64 2)] 71))
set_option maxRecDepth 100000 in
theorem tokens_large (s : ByteArray) (w : World) (hs : 20000 < s.size) : Calls Tryz.prog 9 #[.string s] w fun e w' => e = .returned (.tuple #[.slice none 0 0, .iface 32 (.int .i64 3)]) ∧ w = w' := by
  have hsI : (20000 : Int) < (s.size : Int) := by omega
  go_enter Tryz.func9, Tryz.ntmps9
  go_wp2
  refine bodyPost_ret (by simp [results, Tryz.results9, go_sem]; try rfl) rfl ?_
  exact ⟨rfl, rfl⟩
set_option maxRecDepth 100000 in
set_option maxHeartbeats 4000000 in
theorem tokens_c (s : ByteArray) (w : World) (hs : s.size ≤ 20000) : Calls Tryz.prog 9 #[.string s] w (TokAns s w) := by
  have hsI : ¬ (20000 : Int) < (s.size : Int) := by omega
  obtain ⟨i0, hi, hz0, hz1, hz2⟩ := info_parts info_tok
  go_enter Tryz.func9, Tryz.ntmps9
  go_wp2_with fail
  go_loopw [4, 5] (fun sv i wr => ∃ (k : Nat) (ts : List Tok), i = .int .i64 k ∧ TokRel w wr s sv k ts) (fun _ i _ => s.size - (intOf i).toNat)
  case atStart => exact ⟨0, [], rfl, Below.refl _ _, World.ownsRow_nil _ _ _ _, Nat.le_refl _, AtScan.start s⟩
  case round =>
    obtain ⟨k, ts, rfl, hrel⟩ := hrel
    have hks := hrel.scan.1
    have hlen := hrel.len
    have hsz := hrel.below.size
    have HRL := Lib.hid hrel
    clear hrel
    by_cases hlt : k < s.size
    · have hltI : (k : Int) < (s.size : Int) := by omega
      go_wp2_with fail
      refine (blank_c _ _).mono ?_
      rintro e w1 ⟨rfl, rfl⟩
      cases hb : blankC s[k]
      rotate_left
      · have HST := Lib.hid (step_blank hlt hb)
        clear hb
        go_wp2_with fail
        exact ⟨⟨k + 1, ts, by go_num, HRL.out.skip hlt HST.out⟩, by simp [intOf]; omega⟩
      · have HB := Lib.hid hb
        clear hb
        by_cases h35 : s[k].toNat = 35
        · have h35I : (s[k].toNat : Int) = 35 := by omega
          have hst := step_hash hlt HB.out h35
          obtain ⟨n, hn⟩ : ∃ n, runN lineC (s.data.toList.drop k) = n := ⟨_, rfl⟩
          rw [hn] at hst
          have hp := stepF_pos hst
          rw [List.length_drop, len_data] at hp
          have HST := Lib.hid hst
          have HN := Lib.hid hn
          clear hst hn
          go_wp2_with fail
          refine (run_line _ _ (by rw [size_extract]; omega)).mono ?_
          rintro e w1 ⟨rfl, rfl⟩
          rw [drop_extract, HN.out]
          go_wp2_with fail
          exact ⟨⟨k + n, ts, by go_num, HRL.out.skip hlt HST.out⟩, by simp [intOf]; omega⟩
        · have h35I : ¬ (s[k].toNat : Int) = 35 := by omega
          have H35 := Lib.hid h35
          clear h35
          go_wp2_with fail
          refine (first_c _ _ (by rw [size_extract]; omega) (by rw [size_extract]; omega)).mono ?_
          rintro e w1 ⟨rfl, rfl⟩
          rw [drop_extract]
          obtain ⟨K, hK⟩ : ∃ K, firstF (s.data.toList.drop k) = K := ⟨_, rfl⟩
          obtain ⟨kd, n⟩ := K
          have hle := firstF_le (s.data.toList.drop k)
          rw [List.length_drop, len_data] at hle
          rw [hK] at hle ⊢
          simp only at hle ⊢
          by_cases hn : n = 0
          · have hst := step_none hlt HB.out H35.out (by rw [hK]; exact hn)
            have HST := Lib.hid hst
            clear hst hK hle
            subst hn
            go_wp2_with fail
            refine bodyPost_ret (by simp [results, Tryz.results9, go_sem]; try rfl) rfl ?_
            exact ⟨HRL.out.below.alloc hsz _, .inr ⟨ts, k, wr.heap.size, HRL.out.scan.bad hlt HST.out, hlt, rfl, hsz, Blk.new _ _ _⟩⟩
          · have hst := step_tok hlt HB.out H35.out (by rw [hK]; exact hn)
            have hkd := firstF_kind (s.data.toList.drop k) (by rw [hK]; exact hn)
            rw [hK] at hst hkd
            simp only at hkd
            have HST := Lib.hid hst
            have HKD := Lib.hid hkd
            clear hst hkd hK
            go_wp2_with (at_builtin; refine wpList_append_own _ rfl _ _ 42 rfl w.heap.size 48 i0 (.agg #[.int .i64 0, .int .i64 0, .string { data := #[] }]) 3 32 Tryz.underlying42 hi hz0 hz1 hz2 rfl (by decide) _ ts.length _ rfl (owns_under HRL.out.row ((Below.refl _ _).alloc (Nat.le_refl _) _)) _ 1 1 [.int .i64 (kd : Nat), .int .i64 (k : Nat), .string (s.extract k (k + n))] rfl ?qc1 ?qc2 ?qc3 ?qc4 ?qc5 ?qc6 ?_)
            case qc1 => simp
            case qc2 =>
              intro j u hj
              rw [addN]
              rcases j with _ | _ | _ | j
              · simp at hj; subst hj; exact (Blk.new wr _ _).cell 0
              · simp at hj; subst hj; exact (Blk.new wr _ _).cell 1
              · simp at hj; subst hj; exact (Blk.new wr _ _).cell 2
              · simp at hj
            case qc3 => intro u hu; simp at hu; rcases hu with rfl | rfl | rfl <;> rfl
            case qc4 => unfold maxLen; omega
            case qc5 => omega
            case qc6 => simp; omega
            intro v' w2 hown hgrow hnil
            have hpush := HRL.out.push hlt HST.out (by rcases HKD.out with h | h | h | h <;> omega) ((Below.refl _ wr).alloc (Nat.le_refl _) _) hown hgrow
            have HP := Lib.hid hpush
            clear hown hgrow hnil hpush
            go_wp2_with fail
            exact ⟨⟨k + n, _, by go_num, HP.out⟩, by simp [intOf]; omega⟩
    · have HE := Lib.hid (HRL.out.scan.done hlt)
      have hltI : ¬ (k : Int) < (s.size : Int) := by omega
      go_wp2_with fail
      refine bodyPost_ret (by simp [results, Tryz.results9, go_sem]; try rfl) rfl ?_
      exact ⟨HRL.out.below, .inl ⟨ts, _, HE.out, by omega, rfl, HRL.out.row⟩⟩
end Go.Proofs.YtlpgkldialmofaaGreatDoor
