/- merlonref03.Tokens walked (printed by mklexr.py). -/
import Derived.Test.YtlpgkldialmofaaGreatDoorLexR
import Derived.Deep.DeepCutAuto
import Derived.Deep.Cut
import Derived.Deep.CutBlock
namespace Go.Proofs.YtlpgkldialmofaaGreatDoor
open Go.RowKit
set_option linter.unusedSimpArgs false
set_option linter.unusedVariables false
theorem TokRel.pushJ {w wr w1 w2 : World} {s : ByteArray} {sv v' : Value} {k j kd : Nat} {ts : List Tok} (h : TokRel w wr s sv k ts) (hk : k < s.size) (hs : stepF (s.data.toList.drop k) = some (kd, j - k)) (hd : kd ≠ 0) (hkj : k ≤ j) (hb : Below wr.heap.size wr w1)
    (hown : w2.ownsRow w.heap.size 48 3 v' (ts.length + 1) (flatT ts ++ [.int .i64 (kd : Nat), .int .i64 (k : Nat), .string (s.extract k j)])) (hg : w1.grownBy w2 sv.ownBlock) :
    TokRel w w2 s v' j (ts ++ [⟨kd, k, s.extract k j⟩]) := by
  have e : k + (j - k) = j := by omega
  have := h.push (n := j - k) hk hs hd hb (by rw [e]; exact hown) hg
  rwa [e] at this
theorem TokRel.skipJ {w wr : World} {s : ByteArray} {sv : Value} {k j : Nat} {ts : List Tok} (h : TokRel w wr s sv k ts) (hk : k < s.size) (hs : stepF (s.data.toList.drop k) = some (0, j - k)) (hkj : k ≤ j) : TokRel w wr s sv j ts := by
  have e : k + (j - k) = j := by omega
  have := h.skip (n := j - k) hk hs
  rwa [e] at this
theorem blank_cases {c : UInt8} (h : blankC c = true) : (c.toNat : Int) = 32 ∨ (c.toNat : Int) = 9 ∨ (c.toNat : Int) = 10 := by
  simp [blankC] at h
  omega
theorem blank_not {c : UInt8} (h : blankC c = false) : ¬ (c.toNat : Int) = 32 ∧ ¬ (c.toNat : Int) = 9 ∧ ¬ (c.toNat : Int) = 10 := by
  simp [blankC] at h
  omega
theorem letter_split {c : UInt8} (h : letterC c = true) : (smallC c = true ∧ ¬ (c.toNat : Int) ≤ 90) ∨ (smallC c = false ∧ greatC c = true ∧ (c.toNat : Int) ≤ 90) := by
  revert h
  exact all_bytes (p := fun c => letterC c = true → (smallC c = true ∧ ¬ (c.toNat : Int) ≤ 90) ∨ (smallC c = false ∧ greatC c = true ∧ (c.toNat : Int) ≤ 90)) (by decide +kernel) c
theorem letter_not {c : UInt8} (h : letterC c = false) : smallC c = false ∧ greatC c = false := by simpa [letterC] using h
theorem tok_word {s : ByteArray} {k j kd : Nat} {p : UInt8 → Bool} (hk : k < s.size) (hb : blankC s[k] = false) (h35 : ¬ s[k].toNat = 35) (hf : firstF (s.data.toList.drop k) = (kd, runN p (s.data.toList.drop k))) (hr : RunAt p s k j) (hkj : k + 1 ≤ j) (hs : ∀ hj : j < s.size, p s[j] = false) : stepF (s.data.toList.drop k) = some (kd, j - k) := by
  have e := hr.stop hs
  rw [e] at hf
  rw [step_tok hk hb h35 (by rw [hf]; show ¬ j - k = 0; omega), hf]
theorem word_not {c : UInt8} (h : letterC c = false) (h2 : digitC c = false) : wordC c = false := by
  obtain ⟨h3, h4⟩ := letter_not h
  simp [wordC, h2, h3, h4]
theorem step_of {s : ByteArray} {k n : Nat} (hk : k < s.size) (hb : blankC s[k] = false) (h35 : ¬ s[k].toNat = 35) (hf : firstF (s.data.toList.drop k) = (4, n)) (hn : ¬ n = 0) : stepF (s.data.toList.drop k) = some (4, n) := by
  rw [step_tok hk hb h35 (by rw [hf]; exact hn), hf]
/-- what a byte that is no letter and no digit begins -/
def restF (x : UInt8) (o : Option Nat) : Nat × Nat := if x.toNat = 45 ∧ o = some 62 then (4, 2) else if x.toNat = 46 ∧ o = some 46 then (4, 2) else if signB x then (4, 1) else (0, 0)
theorem sign_46 {c : UInt8} (h : c.toNat = 46) : signB c = true := by simp [signB, h]
theorem sign_45 {c : UInt8} (h : c.toNat = 45) : signB c = false := by simp [signB, h]
theorem two_c {s : ByteArray} {k : Nat} (hk : k < s.size) (hb : blankC s[k] = false) (h35 : ¬ s[k].toNat = 35) (hf : firstF (s.data.toList.drop k) = restF s[k] ((s.data.toList.drop (k + 1)).head?.map UInt8.toNat))
    (h : (s[k].toNat = 45 ∧ ((s.data.toList.drop (k + 1)).head?.map UInt8.toNat) = some 62) ∨ (s[k].toNat = 46 ∧ ((s.data.toList.drop (k + 1)).head?.map UInt8.toNat) = some 46)) : stepF (s.data.toList.drop k) = some (4, k + 1 + 1 - k) := by
  rw [show k + 1 + 1 - k = 2 from by omega]
  refine step_of hk hb h35 ?_ (by decide)
  rw [hf, restF]
  rcases h with h | h
  · rw [if_pos h]
  · rw [if_neg (by omega), if_pos h]
theorem minus_c {s : ByteArray} {k : Nat} (hk : k < s.size) (hb : blankC s[k] = false) (h35 : ¬ s[k].toNat = 35) (hf : firstF (s.data.toList.drop k) = restF s[k] ((s.data.toList.drop (k + 1)).head?.map UInt8.toNat))
    (h : s[k].toNat = 45) (h2 : ¬ ((s.data.toList.drop (k + 1)).head?.map UInt8.toNat) = some 62) : stepF (s.data.toList.drop k) = none := by
  refine step_none hk hb h35 ?_
  rw [hf, restF, if_neg (fun hh => h2 hh.2), if_neg (by omega), if_neg (by rw [sign_45 h]; simp)]
theorem dot_c {s : ByteArray} {k : Nat} (hk : k < s.size) (hb : blankC s[k] = false) (h35 : ¬ s[k].toNat = 35) (hf : firstF (s.data.toList.drop k) = restF s[k] ((s.data.toList.drop (k + 1)).head?.map UInt8.toNat))
    (h : s[k].toNat = 46) (h2 : ¬ ((s.data.toList.drop (k + 1)).head?.map UInt8.toNat) = some 46) : stepF (s.data.toList.drop k) = some (4, k + 1 - k) := by
  rw [show k + 1 - k = 1 from by omega]
  refine step_of hk hb h35 ?_ (by decide)
  rw [hf, restF, if_neg (by omega), if_neg (fun hh => h2 hh.2), if_pos (sign_46 h)]
theorem sign_c {s : ByteArray} {k : Nat} (hk : k < s.size) (hb : blankC s[k] = false) (h35 : ¬ s[k].toNat = 35) (hf : firstF (s.data.toList.drop k) = restF s[k] ((s.data.toList.drop (k + 1)).head?.map UInt8.toNat))
    (h : ¬ s[k].toNat = 45) (h2 : ¬ s[k].toNat = 46) (h3 : signB s[k] = true) : stepF (s.data.toList.drop k) = some (4, k + 1 - k) := by
  rw [show k + 1 - k = 1 from by omega]
  refine step_of hk hb h35 ?_ (by decide)
  rw [hf, restF, if_neg (by simp [h]), if_neg (by simp [h2]), if_pos h3]
theorem rest_c {s : ByteArray} {k : Nat} (hk : k < s.size) (hb : blankC s[k] = false) (h35 : ¬ s[k].toNat = 35) (hf : firstF (s.data.toList.drop k) = restF s[k] ((s.data.toList.drop (k + 1)).head?.map UInt8.toNat))
    (h : ¬ s[k].toNat = 45) (h2 : ¬ s[k].toNat = 46) (h3 : signB s[k] = false) : stepF (s.data.toList.drop k) = none := by
  refine step_none hk hb h35 ?_
  rw [hf, restF, if_neg (by simp [h]), if_neg (by simp [h2]), if_neg (by simp [h3])]
theorem line_val {c : UInt8} : lineC c = decide (¬ (c.toNat : Int) = 10) := by
  by_cases h : (c.toNat : Int) = 10 <;> simp [lineC, h]
theorem sign_cases {c : UInt8} (h : signB c = true) : (c.toNat : Int) = 123 ∨ (c.toNat : Int) = 125 ∨ (c.toNat : Int) = 40 ∨ (c.toNat : Int) = 41 ∨ (c.toNat : Int) = 91 ∨ (c.toNat : Int) = 93 ∨ (c.toNat : Int) = 60 ∨ (c.toNat : Int) = 62 ∨ (c.toNat : Int) = 44 ∨ (c.toNat : Int) = 58 ∨ (c.toNat : Int) = 46 ∨ (c.toNat : Int) = 61 := by
  simp [signB] at h
  omega
theorem sign_not {c : UInt8} (h : signB c = false) : ¬ (c.toNat : Int) = 123 ∧ ¬ (c.toNat : Int) = 125 ∧ ¬ (c.toNat : Int) = 40 ∧ ¬ (c.toNat : Int) = 41 ∧ ¬ (c.toNat : Int) = 91 ∧ ¬ (c.toNat : Int) = 93 ∧ ¬ (c.toNat : Int) = 60 ∧ ¬ (c.toNat : Int) = 62 ∧ ¬ (c.toNat : Int) = 44 ∧ ¬ (c.toNat : Int) = 58 ∧ ¬ (c.toNat : Int) = 46 ∧ ¬ (c.toNat : Int) = 61 := by
  simp [signB] at h
  omega
theorem skip_hash {s : ByteArray} {k j : Nat} (h : stepF (s.data.toList.drop k) = some (0, runN lineC (s.data.toList.drop k))) (hr : RunAt lineC s k j) (hs : ∀ hj : j < s.size, lineC s[j] = false) : stepF (s.data.toList.drop k) = some (0, j - k) := by
  rw [← hr.stop hs]; exact h
set_option maxRecDepth 100000 in
set_option maxHeartbeats 80000000 in
theorem refTokens_c (s : ByteArray) (w : World) (hs : s.size ≤ 20000) : Calls Tryz.prog 18 #[.string s] w (RefAns s w) := by
  obtain ⟨i0, hi, hz0, hz1, hz2⟩ := info_parts info_tok
  go_enter Tryz.func18, Tryz.ntmps18
  go_wp2_with fail
  go_loopw [4, 5] (fun sv i wr => ∃ (k : Nat) (ts : List Tok), i = .int .i64 k ∧ TokRel w wr s sv k ts) (fun _ i _ => s.size - (intOf i).toNat)
  case atStart => exact ⟨0, [], rfl, Below.refl _ _, World.ownsRow_nil _ _ _ _, Nat.le_refl _, AtScan.start s⟩
  case round =>
    obtain ⟨k, ts, rfl, hrel⟩ := hrel
    have hks := hrel.scan.1
    have hlen := hrel.len
    have hsz := hrel.below.size
    have HRL := Lib.hid hrel
    clear hrel
    by_cases hlt : k < s.size
    rotate_left
    · have HE := Lib.hid (HRL.out.scan.done hlt)
      have hltI : ¬ (k : Int) < (s.size : Int) := by omega
      go_wp2_with fail
      refine bodyPost_ret (by simp [results, Tryz.results18, go_sem]; try rfl) rfl ?_
      exact ⟨HRL.out.below, .inl ⟨ts, _, HE.out, by omega, rfl, HRL.out.row⟩⟩
    have hltI : (k : Int) < (s.size : Int) := by omega
    go_upto_block 2 with fail
    obtain ⟨J, hJ⟩ : ∃ J : Nat, k + 1 = J := ⟨_, rfl⟩
    obtain ⟨X, hX⟩ : ∃ X, s[k] = X := ⟨_, rfl⟩
    have hJI : (k : Int) + 1 = (J : Int) := by omega
    rw [hX, hJI]
    clear hJI
    have HJ := Lib.hid hJ
    have HX := Lib.hid hX
    clear hJ hX
    have hJ1 : J ≤ s.size := by have := HJ.out; omega
    go_cut [7, 8] (fun jv kv wx => wr = wx ∧ ∃ (j kd : Nat), jv = .int .i64 j ∧ kv = .int .i64 kd ∧ stepF (s.data.toList.drop k) = some (kd, j - k) ∧ k ≤ j ∧ j ≤ s.size ∧ kd ≤ 4)
    case rest =>
      obtain ⟨rfl, j, kd, rfl, rfl, hst, hkj, hjs, hkd⟩ := hcut
      have HST := Lib.hid hst
      clear hst hJ1 HJ HX
      by_cases h0 : kd = 0
      · subst h0
        go_wp2_with fail
        have hp := stepF_pos HST.out
        exact ⟨⟨j, ts, rfl, HRL.out.skipJ hlt HST.out hkj⟩, by simp [intOf]; omega⟩
      · have h0I : (0 : Int) < (kd : Int) := by omega
        have H0 := Lib.hid h0
        have hp := stepF_pos HST.out
        have hjkI : (k : Int) ≤ (j : Int) := by omega
        have hjsI : (j : Int) ≤ (s.size : Int) := by omega
        clear h0
        go_wp2_with (at_builtin; refine wpList_append_own _ rfl _ _ 42 rfl w.heap.size 48 i0 (.agg #[.int .i64 0, .int .i64 0, .string { data := #[] }]) 3 32 Tryz.underlying42 hi hz0 hz1 hz2 rfl (by decide) _ ts.length _ rfl (owns_under HRL.out.row ((Below.refl _ _).alloc (Nat.le_refl _) _)) _ 1 1 [.int .i64 (kd : Nat), .int .i64 (k : Nat), .string (s.extract k j)] rfl ?qc1 ?qc2 ?qc3 ?qc4 ?qc5 ?qc6 ?_)
        case qc1 => simp
        case qc2 =>
          intro j u hj
          rw [addN]
          rcases j with _ | _ | _ | j
          · simp at hj; subst hj; exact (Blk.new wr _ _).cell 0
          · simp at hj; subst hj; exact (Blk.new wr _ _).cell 1
          · simp at hj; subst hj; exact (Blk.new wr _ _).cell 2
          · simp at hj
        case qc3 => intro u hu; simp at hu; rcases hu with rfl | rfl | rfl <;> rfl
        case qc4 => unfold maxLen; omega
        case qc5 => omega
        case qc6 => simp; omega
        intro v' w2 hown hgrow hnil
        have hpush := HRL.out.pushJ (j := j) hlt HST.out H0.out hkj ((Below.refl _ wr).alloc (Nat.le_refl _) _) hown hgrow
        have HP := Lib.hid hpush
        clear hown hgrow hnil hpush
        go_wp2_with fail
        exact ⟨⟨j, _, rfl, HP.out⟩, by simp [intOf]; omega⟩
    case first =>
      go_upto_region 8 with fail
      go_cut [20] (fun v wx => v = .bool (blankC X) ∧ wr = wx)
      case first =>
        cases hb : blankC X
        · obtain ⟨n32, n9, n10⟩ := blank_not hb
          have q32 : ((X.toNat : Int) == 32) = false := by simp [n32]
          have q9 : ((X.toNat : Int) == 9) = false := by simp [n9]
          have q10 : ((X.toNat : Int) == 10) = false := by simp [n10]
          clear n32 n9 n10
          go_wp2_with fail
          go_meet
          exact ⟨by rw [hb], rfl⟩
        · have hx := blank_cases hb
          rcases hx with hx | hx | hx
          · have q32 : ((X.toNat : Int) == 32) = true := by simp [hx]
            clear hx
            go_wp2_with fail
            go_meet
            exact ⟨by rw [hb], rfl⟩
          · have q32 : ((X.toNat : Int) == 32) = false := by simp [hx]
            have q9 : ((X.toNat : Int) == 9) = true := by simp [hx]
            clear hx
            go_wp2_with fail
            go_meet
            exact ⟨by rw [hb], rfl⟩
          · have q32 : ((X.toNat : Int) == 32) = false := by simp [hx]
            have q9 : ((X.toNat : Int) == 9) = false := by simp [hx]
            have q10 : ((X.toNat : Int) == 10) = true := by simp [hx]
            clear hx
            go_wp2_with fail
            go_meet
            exact ⟨by rw [hb], rfl⟩
      case rest =>
      obtain ⟨rfl, rfl⟩ := hcut
      cases hb : blankC X
      rotate_left
      · have HST := Lib.hid (step_blank hlt (by rw [HX.out]; exact hb))
        clear hb
        have e1 : J - k = 1 := by have := HJ.out; omega
        rw [← e1] at HST
        have hkJ : k ≤ J := by have := HJ.out; omega
        go_wp2_with fail
        go_meet
        exact ⟨rfl, J, 0, rfl, rfl, HST.out, by omega, by omega, by omega⟩
      have HB := Lib.hid (show blankC s[k] = false by rw [HX.out]; exact hb)
      clear hb
      by_cases h35 : s[k].toNat = 35
      · as_aux_lemma =>
          have q35 : ((X.toNat : Int) == 35) = true := by rw [← HX.out, h35]; rfl
          have HST0 := Lib.hid (step_hash hlt HB.out h35)
          have hr0 := Lib.hid (RunAt.one (p := lineC) hlt (by rw [line_val]; simp; omega))
          clear h35
          go_wp2_with fail
          go_loopw [7] (fun jv wi => ∃ j : Nat, jv = .int .i64 j ∧ wr = wi ∧ k + 1 ≤ j ∧ RunAt lineC s k j) (fun jv _ => s.size - (intOf jv).toNat)
          case atStart => exact ⟨J, rfl, rfl, by have := HJ.out; omega, by rw [← HJ.out]; exact hr0.out⟩
          case round =>
            obtain ⟨j, rfl, rfl, hkj, hrun⟩ := hrel
            have hjs := hrun.2.1
            have HR := Lib.hid hrun
            clear hrun hr0
            by_cases hj : j < s.size
            · have hjI : (j : Int) < (s.size : Int) := by omega
              by_cases hc : (s[j].toNat : Int) = 10
              · have HST := Lib.hid (skip_hash HST0.out HR.out (fun h => by rw [line_val]; simpa using hc))
                go_wp2_with fail
                go_meet
                exact ⟨rfl, j, 0, rfl, rfl, HST.out, by omega, by omega, by omega⟩
              · have HR2 := Lib.hid (HR.out.step hj (by rw [line_val]; simpa using hc))
                go_wp2_with fail
                exact ⟨⟨j + 1, by go_num, trivial, by omega, HR2.out⟩, by simp [intOf]; omega⟩
            · have hjI : ¬ (j : Int) < (s.size : Int) := by omega
              have HST := Lib.hid (skip_hash HST0.out HR.out (fun h => absurd h hj))
              go_wp2_with fail
              go_meet
              exact ⟨rfl, j, 0, rfl, rfl, HST.out, by omega, by omega, by omega⟩
  
      have q35 : ((X.toNat : Int) == 35) = false := by rw [← HX.out]; simp; omega
      have H35 := Lib.hid h35
      clear h35
      cases hl : letterC X
      rotate_left
      · have hl' : letterC s[k] = true := by rw [HX.out]; exact hl
        obtain ⟨hword, hsp⟩ := And.intro (letter_word hl') (letter_split hl')
        have hr0 := Lib.hid (RunAt.one (p := wordC) hlt hword)
        have HL := Lib.hid hl
        clear hl hword hl'
        rcases hsp with ⟨hsm, hle⟩ | ⟨hsm, hgr, hle⟩
        · as_aux_lemma =>
            have HF := Lib.hid (first_small hlt hsm)
            rw [HX.out] at hle
            clear hsm
            go_wp2_with (first | (go_at_call 38; refine (letter_c _ _).mono ?_; rintro e w' ⟨rfl, rfl⟩; rw [HL.out]) | (go_at_call 39; refine (refDigit_c _ _).mono ?_; rintro e w' ⟨rfl, rfl⟩; rw [HD.out]))
            clear HL
            go_loopw [7] (fun jv wi => ∃ j : Nat, jv = .int .i64 j ∧ wr = wi ∧ k + 1 ≤ j ∧ RunAt wordC s k j) (fun jv _ => s.size - (intOf jv).toNat)
            case atStart => exact ⟨J, rfl, rfl, by have := HJ.out; omega, by rw [← HJ.out]; exact hr0.out⟩
            case round =>
              obtain ⟨j, rfl, rfl, hkj, hrun⟩ := hrel
              have hjs := hrun.2.1
              have HR := Lib.hid hrun
              clear hrun hr0
              by_cases hj : j < s.size
              · have hjI : (j : Int) < (s.size : Int) := by omega
                cases hl : letterC s[j]
                · cases hd : digitC s[j]
                  · have HST := Lib.hid (tok_word hlt HB.out H35.out HF.out HR.out hkj (fun h => word_not hl hd))
                    have HL := Lib.hid hl
                    have HD := Lib.hid hd
                    clear hl hd
                    go_wp2_with (first | (go_at_call 38; refine (letter_c _ _).mono ?_; rintro e w' ⟨rfl, rfl⟩; rw [HL.out]) | (go_at_call 39; refine (refDigit_c _ _).mono ?_; rintro e w' ⟨rfl, rfl⟩; rw [HD.out]))
                    go_meet
                    exact ⟨rfl, j, 1, rfl, rfl, HST.out, by omega, by omega, by omega⟩
                  · have HR2 := Lib.hid (HR.out.step hj (digit_word hd))
                    have HL := Lib.hid hl
                    have HD := Lib.hid hd
                    clear hl hd
                    go_wp2_with (first | (go_at_call 38; refine (letter_c _ _).mono ?_; rintro e w' ⟨rfl, rfl⟩; rw [HL.out]) | (go_at_call 39; refine (refDigit_c _ _).mono ?_; rintro e w' ⟨rfl, rfl⟩; rw [HD.out]))
                    exact ⟨⟨j + 1, by go_num, trivial, by omega, HR2.out⟩, by simp [intOf]; omega⟩
                · have HR2 := Lib.hid (HR.out.step hj (letter_word hl))
                  have HL := Lib.hid hl
                  clear hl
                  go_wp2_with (go_at_call 38; refine (letter_c _ _).mono ?_; rintro e w' ⟨rfl, rfl⟩; rw [HL.out])
                  exact ⟨⟨j + 1, by go_num, trivial, by omega, HR2.out⟩, by simp [intOf]; omega⟩
              · have hjI : ¬ (j : Int) < (s.size : Int) := by omega
                have HST := Lib.hid (tok_word hlt HB.out H35.out HF.out HR.out hkj (fun h => absurd h hj))
                go_wp2_with fail
                go_meet
                exact ⟨rfl, j, 1, rfl, rfl, HST.out, by omega, by omega, by omega⟩
  
        · as_aux_lemma =>
            have HF := Lib.hid (first_great hlt hsm hgr)
            rw [HX.out] at hle
            clear hsm hgr
            go_wp2_with (first | (go_at_call 38; refine (letter_c _ _).mono ?_; rintro e w' ⟨rfl, rfl⟩; rw [HL.out]) | (go_at_call 39; refine (refDigit_c _ _).mono ?_; rintro e w' ⟨rfl, rfl⟩; rw [HD.out]))
            clear HL
            go_loopw [7] (fun jv wi => ∃ j : Nat, jv = .int .i64 j ∧ wr = wi ∧ k + 1 ≤ j ∧ RunAt wordC s k j) (fun jv _ => s.size - (intOf jv).toNat)
            case atStart => exact ⟨J, rfl, rfl, by have := HJ.out; omega, by rw [← HJ.out]; exact hr0.out⟩
            case round =>
              obtain ⟨j, rfl, rfl, hkj, hrun⟩ := hrel
              have hjs := hrun.2.1
              have HR := Lib.hid hrun
              clear hrun hr0
              by_cases hj : j < s.size
              · have hjI : (j : Int) < (s.size : Int) := by omega
                cases hl : letterC s[j]
                · cases hd : digitC s[j]
                  · have HST := Lib.hid (tok_word hlt HB.out H35.out HF.out HR.out hkj (fun h => word_not hl hd))
                    have HL := Lib.hid hl
                    have HD := Lib.hid hd
                    clear hl hd
                    go_wp2_with (first | (go_at_call 38; refine (letter_c _ _).mono ?_; rintro e w' ⟨rfl, rfl⟩; rw [HL.out]) | (go_at_call 39; refine (refDigit_c _ _).mono ?_; rintro e w' ⟨rfl, rfl⟩; rw [HD.out]))
                    go_meet
                    exact ⟨rfl, j, 2, rfl, rfl, HST.out, by omega, by omega, by omega⟩
                  · have HR2 := Lib.hid (HR.out.step hj (digit_word hd))
                    have HL := Lib.hid hl
                    have HD := Lib.hid hd
                    clear hl hd
                    go_wp2_with (first | (go_at_call 38; refine (letter_c _ _).mono ?_; rintro e w' ⟨rfl, rfl⟩; rw [HL.out]) | (go_at_call 39; refine (refDigit_c _ _).mono ?_; rintro e w' ⟨rfl, rfl⟩; rw [HD.out]))
                    exact ⟨⟨j + 1, by go_num, trivial, by omega, HR2.out⟩, by simp [intOf]; omega⟩
                · have HR2 := Lib.hid (HR.out.step hj (letter_word hl))
                  have HL := Lib.hid hl
                  clear hl
                  go_wp2_with (go_at_call 38; refine (letter_c _ _).mono ?_; rintro e w' ⟨rfl, rfl⟩; rw [HL.out])
                  exact ⟨⟨j + 1, by go_num, trivial, by omega, HR2.out⟩, by simp [intOf]; omega⟩
              · have hjI : ¬ (j : Int) < (s.size : Int) := by omega
                have HST := Lib.hid (tok_word hlt HB.out H35.out HF.out HR.out hkj (fun h => absurd h hj))
                go_wp2_with fail
                go_meet
                exact ⟨rfl, j, 2, rfl, rfl, HST.out, by omega, by omega, by omega⟩
  
      have HNL := Lib.hid (letter_not (c := s[k]) (by rw [HX.out]; exact hl))
      have HL := Lib.hid hl
      clear hl
      cases hd : digitC X
      rotate_left
      · as_aux_lemma =>
          have hd' : digitC s[k] = true := by rw [HX.out]; exact hd
          have HF := Lib.hid (first_digit hlt HNL.out.1 HNL.out.2 hd')
          have hr0 := Lib.hid (RunAt.one (p := digitC) hlt hd')
          have HD := Lib.hid hd
          clear hd hd'
          go_wp2_with (first | (go_at_call 38; refine (letter_c _ _).mono ?_; rintro e w' ⟨rfl, rfl⟩; rw [HL.out]) | (go_at_call 39; refine (refDigit_c _ _).mono ?_; rintro e w' ⟨rfl, rfl⟩; rw [HD.out]))
          clear HL HD
          go_loopw [7] (fun jv wi => ∃ j : Nat, jv = .int .i64 j ∧ wr = wi ∧ k + 1 ≤ j ∧ RunAt digitC s k j) (fun jv _ => s.size - (intOf jv).toNat)
          case atStart => exact ⟨J, rfl, rfl, by have := HJ.out; omega, by rw [← HJ.out]; exact hr0.out⟩
          case round =>
            obtain ⟨j, rfl, rfl, hkj, hrun⟩ := hrel
            have hjs := hrun.2.1
            have HR := Lib.hid hrun
            clear hrun hr0
            by_cases hj : j < s.size
            · have hjI : (j : Int) < (s.size : Int) := by omega
              cases hd : digitC s[j]
              · have HST := Lib.hid (tok_word hlt HB.out H35.out HF.out HR.out hkj (fun h => hd))
                have HD := Lib.hid hd
                clear hd
                go_wp2_with (go_at_call 39; refine (refDigit_c _ _).mono ?_; rintro e w' ⟨rfl, rfl⟩; rw [HD.out])
                go_meet
                exact ⟨rfl, j, 3, rfl, rfl, HST.out, by omega, by omega, by omega⟩
              · have HR2 := Lib.hid (HR.out.step hj hd)
                have HD := Lib.hid hd
                clear hd
                go_wp2_with (go_at_call 39; refine (refDigit_c _ _).mono ?_; rintro e w' ⟨rfl, rfl⟩; rw [HD.out])
                exact ⟨⟨j + 1, by go_num, trivial, by omega, HR2.out⟩, by simp [intOf]; omega⟩
            · have hjI : ¬ (j : Int) < (s.size : Int) := by omega
              have HST := Lib.hid (tok_word hlt HB.out H35.out HF.out HR.out hkj (fun h => absurd h hj))
              go_wp2_with fail
              go_meet
              exact ⟨rfl, j, 3, rfl, rfl, HST.out, by omega, by omega, by omega⟩
  
      have HF := Lib.hid (first_rest hlt HNL.out.1 HNL.out.2 (by rw [HX.out]; exact hd))
      have HD := Lib.hid hd
      clear hd HNL
      go_upto_region 22 with (first | (go_at_call 38; refine (letter_c _ _).mono ?_; rintro e w' ⟨rfl, rfl⟩; rw [HL.out]) | (go_at_call 39; refine (refDigit_c _ _).mono ?_; rintro e w' ⟨rfl, rfl⟩; rw [HD.out]))
      clear HL HD
      have HFJ := Lib.hid (show firstF (s.data.toList.drop k) = restF s[k] ((s.data.toList.drop J).head?.map UInt8.toNat) by rw [← HJ.out]; exact HF.out)
      have hj1 : k + 1 = J := HJ.out
      clear HF
      by_cases h45 : X.toNat = 45
      · as_aux_lemma =>
          have q45 : ((X.toNat : Int) == 45) = true := by rw [h45]; rfl
          have hn : s[k].toNat = 45 := by rw [HX.out]; exact h45
          clear h45
          by_cases hj : J < s.size
          · have hjI : (J : Int) < (s.size : Int) := by omega
            by_cases h62 : s[J].toNat = 62
            · have HST := Lib.hid (two_c hlt HB.out H35.out (by rw [hj1]; exact HFJ.out) (.inl ⟨hn, by simp only [hj1]; rw [head_drop hj, h62]⟩))
              have qd : ((s[J].toNat : Int) == 62) = true := by rw [h62]; rfl
              clear hn h62
              go_wp2_with fail
              go_meet
              exact ⟨rfl, k + 1 + 1, 4, by go_num, rfl, HST.out, by omega, by omega, by omega⟩
            · have HST := Lib.hid (minus_c hlt HB.out H35.out (by rw [hj1]; exact HFJ.out) hn (by simp only [hj1]; rw [head_drop hj]; simp; omega))
              have qd2 : ((s[J].toNat : Int) == 62) = false := by simp; omega
              clear hn h62
              go_wp2_with fail
              refine bodyPost_ret (by simp [results, Tryz.results18, go_sem]; try rfl) rfl ?_
              exact ⟨HRL.out.below, .inr ⟨ts, k, HRL.out.scan.bad hlt HST.out, hlt, rfl⟩⟩
          · have hjI : ¬ (J : Int) < (s.size : Int) := by omega
            have HST := Lib.hid (minus_c hlt HB.out H35.out (by rw [hj1]; exact HFJ.out) hn (by simp only [hj1]; rw [head_none hj]; simp))
            clear hn
            go_wp2_with fail
            refine bodyPost_ret (by simp [results, Tryz.results18, go_sem]; try rfl) rfl ?_
            exact ⟨HRL.out.below, .inr ⟨ts, k, HRL.out.scan.bad hlt HST.out, hlt, rfl⟩⟩
      have q45 : ((X.toNat : Int) == 45) = false := by simp; omega
      by_cases h46 : X.toNat = 46
      · as_aux_lemma =>
          have q46 : ((X.toNat : Int) == 46) = true := by rw [h46]; rfl
          have hn : s[k].toNat = 46 := by rw [HX.out]; exact h46
          clear h46 h45
          by_cases hj : J < s.size
          · have hjI : (J : Int) < (s.size : Int) := by omega
            by_cases h62 : s[J].toNat = 46
            · have HST := Lib.hid (two_c hlt HB.out H35.out (by rw [hj1]; exact HFJ.out) (.inr ⟨hn, by simp only [hj1]; rw [head_drop hj, h62]⟩))
              have qd : ((s[J].toNat : Int) == 46) = true := by rw [h62]; rfl
              clear hn h62
              go_wp2_with fail
              go_meet
              exact ⟨rfl, k + 1 + 1, 4, by go_num, rfl, HST.out, by omega, by omega, by omega⟩
            · have HST := Lib.hid (dot_c hlt HB.out H35.out (by rw [hj1]; exact HFJ.out) hn (by simp only [hj1]; rw [head_drop hj]; simp; omega))
              have qd2 : ((s[J].toNat : Int) == 46) = false := by simp; omega
              clear hn h62
              go_wp2_with fail
              go_meet
              exact ⟨rfl, k + 1, 4, by go_num, rfl, HST.out, by omega, by omega, by omega⟩
          · have hjI : ¬ (J : Int) < (s.size : Int) := by omega
            have HST := Lib.hid (dot_c hlt HB.out H35.out (by rw [hj1]; exact HFJ.out) hn (by simp only [hj1]; rw [head_none hj]; simp))
            clear hn
            go_wp2_with fail
            go_meet
            exact ⟨rfl, k + 1, 4, by go_num, rfl, HST.out, by omega, by omega, by omega⟩
      have q46 : ((X.toNat : Int) == 46) = false := by simp; omega
      have hn45 : ¬ s[k].toNat = 45 := by rw [HX.out]; exact h45
      have hn46 : ¬ s[k].toNat = 46 := by rw [HX.out]; exact h46
      clear h45 h46
      go_upto_region 29 with fail
      obtain ⟨sg, hsg⟩ : ∃ b, signB s[k] = b := ⟨_, rfl⟩
      go_cut [121] (fun v wx => v = .bool sg ∧ wr = wx)
      case first =>
        cases sg
        · as_aux_lemma =>
            obtain ⟨m1, m2, m3, m4, m5, m6, m7, m8, m9, m10, m11, m12⟩ := sign_not hsg
            rw [HX.out] at m1 m2 m3 m4 m5 m6 m7 m8 m9 m10 m11 m12
            have q123 : ((X.toNat : Int) == 123) = false := by simp [m1]
            have q125 : ((X.toNat : Int) == 125) = false := by simp [m2]
            have q40 : ((X.toNat : Int) == 40) = false := by simp [m3]
            have q41 : ((X.toNat : Int) == 41) = false := by simp [m4]
            have q91 : ((X.toNat : Int) == 91) = false := by simp [m5]
            have q93 : ((X.toNat : Int) == 93) = false := by simp [m6]
            have q60 : ((X.toNat : Int) == 60) = false := by simp [m7]
            have q62 : ((X.toNat : Int) == 62) = false := by simp [m8]
            have q44 : ((X.toNat : Int) == 44) = false := by simp [m9]
            have q58 : ((X.toNat : Int) == 58) = false := by simp [m10]
            have q61 : ((X.toNat : Int) == 61) = false := by simp [m12]
            clear m1 m2 m3 m4 m5 m6 m7 m8 m9 m10 m11 m12 hsg
            go_wp2_with fail
            go_meet
            exact ⟨rfl, rfl⟩
        · as_aux_lemma =>
            have hc := sign_cases hsg
            rw [HX.out] at hc
            clear hsg hn45 hn46 HFJ
            rcases hc with hc | hc | hc | hc | hc | hc | hc | hc | hc | hc | hc | hc
            · have q123 : ((X.toNat : Int) == 123) = true := by simp [hc]
              clear hc
              go_wp2_with fail
              go_meet
              exact ⟨rfl, rfl⟩
            · have q123 : ((X.toNat : Int) == 123) = false := by simp [hc]
              have q125 : ((X.toNat : Int) == 125) = true := by simp [hc]
              clear hc
              go_wp2_with fail
              go_meet
              exact ⟨rfl, rfl⟩
            · have q123 : ((X.toNat : Int) == 123) = false := by simp [hc]
              have q125 : ((X.toNat : Int) == 125) = false := by simp [hc]
              have q40 : ((X.toNat : Int) == 40) = true := by simp [hc]
              clear hc
              go_wp2_with fail
              go_meet
              exact ⟨rfl, rfl⟩
            · have q123 : ((X.toNat : Int) == 123) = false := by simp [hc]
              have q125 : ((X.toNat : Int) == 125) = false := by simp [hc]
              have q40 : ((X.toNat : Int) == 40) = false := by simp [hc]
              have q41 : ((X.toNat : Int) == 41) = true := by simp [hc]
              clear hc
              go_wp2_with fail
              go_meet
              exact ⟨rfl, rfl⟩
            · have q123 : ((X.toNat : Int) == 123) = false := by simp [hc]
              have q125 : ((X.toNat : Int) == 125) = false := by simp [hc]
              have q40 : ((X.toNat : Int) == 40) = false := by simp [hc]
              have q41 : ((X.toNat : Int) == 41) = false := by simp [hc]
              have q91 : ((X.toNat : Int) == 91) = true := by simp [hc]
              clear hc
              go_wp2_with fail
              go_meet
              exact ⟨rfl, rfl⟩
            · have q123 : ((X.toNat : Int) == 123) = false := by simp [hc]
              have q125 : ((X.toNat : Int) == 125) = false := by simp [hc]
              have q40 : ((X.toNat : Int) == 40) = false := by simp [hc]
              have q41 : ((X.toNat : Int) == 41) = false := by simp [hc]
              have q91 : ((X.toNat : Int) == 91) = false := by simp [hc]
              have q93 : ((X.toNat : Int) == 93) = true := by simp [hc]
              clear hc
              go_wp2_with fail
              go_meet
              exact ⟨rfl, rfl⟩
            · have q123 : ((X.toNat : Int) == 123) = false := by simp [hc]
              have q125 : ((X.toNat : Int) == 125) = false := by simp [hc]
              have q40 : ((X.toNat : Int) == 40) = false := by simp [hc]
              have q41 : ((X.toNat : Int) == 41) = false := by simp [hc]
              have q91 : ((X.toNat : Int) == 91) = false := by simp [hc]
              have q93 : ((X.toNat : Int) == 93) = false := by simp [hc]
              have q60 : ((X.toNat : Int) == 60) = true := by simp [hc]
              clear hc
              go_wp2_with fail
              go_meet
              exact ⟨rfl, rfl⟩
            · have q123 : ((X.toNat : Int) == 123) = false := by simp [hc]
              have q125 : ((X.toNat : Int) == 125) = false := by simp [hc]
              have q40 : ((X.toNat : Int) == 40) = false := by simp [hc]
              have q41 : ((X.toNat : Int) == 41) = false := by simp [hc]
              have q91 : ((X.toNat : Int) == 91) = false := by simp [hc]
              have q93 : ((X.toNat : Int) == 93) = false := by simp [hc]
              have q60 : ((X.toNat : Int) == 60) = false := by simp [hc]
              have q62 : ((X.toNat : Int) == 62) = true := by simp [hc]
              clear hc
              go_wp2_with fail
              go_meet
              exact ⟨rfl, rfl⟩
            · have q123 : ((X.toNat : Int) == 123) = false := by simp [hc]
              have q125 : ((X.toNat : Int) == 125) = false := by simp [hc]
              have q40 : ((X.toNat : Int) == 40) = false := by simp [hc]
              have q41 : ((X.toNat : Int) == 41) = false := by simp [hc]
              have q91 : ((X.toNat : Int) == 91) = false := by simp [hc]
              have q93 : ((X.toNat : Int) == 93) = false := by simp [hc]
              have q60 : ((X.toNat : Int) == 60) = false := by simp [hc]
              have q62 : ((X.toNat : Int) == 62) = false := by simp [hc]
              have q44 : ((X.toNat : Int) == 44) = true := by simp [hc]
              clear hc
              go_wp2_with fail
              go_meet
              exact ⟨rfl, rfl⟩
            · have q123 : ((X.toNat : Int) == 123) = false := by simp [hc]
              have q125 : ((X.toNat : Int) == 125) = false := by simp [hc]
              have q40 : ((X.toNat : Int) == 40) = false := by simp [hc]
              have q41 : ((X.toNat : Int) == 41) = false := by simp [hc]
              have q91 : ((X.toNat : Int) == 91) = false := by simp [hc]
              have q93 : ((X.toNat : Int) == 93) = false := by simp [hc]
              have q60 : ((X.toNat : Int) == 60) = false := by simp [hc]
              have q62 : ((X.toNat : Int) == 62) = false := by simp [hc]
              have q44 : ((X.toNat : Int) == 44) = false := by simp [hc]
              have q58 : ((X.toNat : Int) == 58) = true := by simp [hc]
              clear hc
              go_wp2_with fail
              go_meet
              exact ⟨rfl, rfl⟩
            · exact absurd (show s[k].toNat = 46 by rw [HX.out]; omega) (by simp at q46; rw [HX.out]; omega)
            · have q123 : ((X.toNat : Int) == 123) = false := by simp [hc]
              have q125 : ((X.toNat : Int) == 125) = false := by simp [hc]
              have q40 : ((X.toNat : Int) == 40) = false := by simp [hc]
              have q41 : ((X.toNat : Int) == 41) = false := by simp [hc]
              have q91 : ((X.toNat : Int) == 91) = false := by simp [hc]
              have q93 : ((X.toNat : Int) == 93) = false := by simp [hc]
              have q60 : ((X.toNat : Int) == 60) = false := by simp [hc]
              have q62 : ((X.toNat : Int) == 62) = false := by simp [hc]
              have q44 : ((X.toNat : Int) == 44) = false := by simp [hc]
              have q58 : ((X.toNat : Int) == 58) = false := by simp [hc]
              have q61 : ((X.toNat : Int) == 61) = true := by simp [hc]
              clear hc
              go_wp2_with fail
              go_meet
              exact ⟨rfl, rfl⟩
      case rest =>
      obtain ⟨rfl, rfl⟩ := hcut
      cases sg
      · have HST := Lib.hid (rest_c hlt HB.out H35.out (by rw [hj1]; exact HFJ.out) hn45 hn46 hsg)
        go_wp2_with fail
        refine bodyPost_ret (by simp [results, Tryz.results18, go_sem]; try rfl) rfl ?_
        exact ⟨HRL.out.below, .inr ⟨ts, k, HRL.out.scan.bad hlt HST.out, hlt, rfl⟩⟩
      · have HST := Lib.hid (sign_c hlt HB.out H35.out (by rw [hj1]; exact HFJ.out) hn45 hn46 hsg)
        go_wp2_with fail
        go_meet
        exact ⟨rfl, k + 1, 4, by go_num, rfl, HST.out, by omega, by omega, by omega⟩
end Go.Proofs.YtlpgkldialmofaaGreatDoor
