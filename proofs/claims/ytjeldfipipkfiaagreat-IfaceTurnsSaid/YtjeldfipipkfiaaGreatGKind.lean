/- The contracts of package kind: which types may be; no condition but those of Go's own values. -/
import Derived.Test.YtjeldfipipkfiaaGreatGIdent
import Derived.Deep.QuietTactic
import Derived.Deep.Draws
namespace Go.Proofs.YtjeldfipipkfiaaGreat
open Go.RowKit
def ltB (a b : ByteArray) : Bool := Op.bytesLess a.toList b.toList
def riseB : List ByteArray → Bool
  | [] => true
  | [_] => true
  | a :: b :: l => ltB a b && riseB (b :: l)
theorem riseB_iff : ∀ l : List ByteArray, riseB l = true ↔ ∀ i (h : i + 1 < l.length), ltB l[i] l[i + 1] = true
  | [] => by simp [riseB]
  | [a] => by simp [riseB]
  | a :: b :: l => by
    rw [riseB, Bool.and_eq_true, riseB_iff (b :: l)]
    constructor
    · rintro ⟨h1, h2⟩ i hi
      cases i with
      | zero => exact h1
      | succ i => exact h2 i (by simpa using hi)
    · intro h
      exact ⟨h 0 (by simp), fun i hi => h (i + 1) (by simpa using hi)⟩
def namesB (p : ByteArray → Bool) (l : List ByteArray) : Bool := l.all p && riseB l
def Good (p : ByteArray → Bool) (l : List ByteArray) (k : Nat) : Prop := ∀ i (h : i < l.length), i < k → p l[i] = true ∧ ∀ h0 : 0 < i, ltB (l[i - 1]'(by omega)) l[i] = true
theorem good_all {p : ByteArray → Bool} {l : List ByteArray} (h : Good p l l.length) : namesB p l = true := by
  rw [namesB, Bool.and_eq_true, riseB_iff]
  refine ⟨?_, fun i hi => (h (i + 1) hi hi).2 (by omega)⟩
  rw [List.all_eq_true]
  intro x hx
  obtain ⟨i, hi, rfl⟩ := List.getElem_of_mem hx
  exact (h i hi hi).1
theorem all_good {p : ByteArray → Bool} {l : List ByteArray} (h : namesB p l = true) : Good p l l.length := by
  rw [namesB, Bool.and_eq_true, riseB_iff, List.all_eq_true] at h
  refine fun i hi _ => ⟨h.1 _ (List.getElem_mem hi), fun h0 => ?_⟩
  obtain ⟨j, rfl⟩ : ∃ j, i = j + 1 := ⟨i - 1, by omega⟩
  exact h.2 j hi
theorem good_bad {p : ByteArray → Bool} {l : List ByteArray} {k : Nat} (hk : k < l.length) (h : p l[k] = false ∨ ∃ h0 : 0 < k, ltB (l[k - 1]'(by omega)) l[k] = false) : namesB p l = false := by
  cases hn : namesB p l
  · rfl
  · have := all_good hn k hk hk
    rcases h with h | ⟨h0, h⟩
    · rw [this.1] at h; cases h
    · rw [this.2 h0] at h; cases h
theorem good_succ {p : ByteArray → Bool} {l : List ByteArray} {k : Nat} (hk : k < l.length) (h : Good p l k) (h1 : p l[k] = true) (h2 : ∀ h0 : 0 < k, ltB (l[k - 1]'(by omega)) l[k] = true) : Good p l (k + 1) := by
  intro i hi hik
  by_cases e : i = k
  · subst e; exact ⟨h1, h2⟩
  · exact h i hi (by omega)
set_option maxHeartbeats 1000000 in
theorem names_any (A : Option Addr) (c B : Nat) (l : List ByteArray) (fn : Nat) (p : ByteArray → Bool) (w : World) (hl : l.length ≤ maxLen) (hz : ∀ s ∈ l, s.size ≤ maxLen) (hr : StrsAt w B A l) (hB : B ≤ w.heap.size)
    (hfn : ∀ (a : Array Value) (w : World), (callFunc fn a).run Tryz.prog w = .ok (.enter fn a) w)
    (hp : ∀ (s : ByteArray) (w : World), s.size ≤ maxLen → Calls Tryz.prog fn #[.string s] w fun e w' => e = .returned (.bool (p s)) ∧ Below w.heap.size w w') :
    Calls Tryz.prog 177 #[.slice A l.length c, .func (.func fn) #[] #[]] w fun e w' => e = .returned (.bool (namesB p l)) ∧ Below w.heap.size w w' := by
  unfold maxLen at hl
  have HP := Lib.hid hp
  have HZ := Lib.hid hz
  clear hp hz
  go_enter Tryz.func177, Tryz.ntmps177
  go_wp2
  go_loopw [9] (fun i w1 => ∃ k : Nat, k ≤ l.length ∧ i = .int .i64 k ∧ Below w.heap.size w w1 ∧ Good p l k) (fun i _ => l.length - (intOf i).toNat)
  case atStart => exact ⟨0, Nat.zero_le _, rfl, Below.refl _ _, fun i _ hi => absurd hi (by omega)⟩
  case round =>
    obtain ⟨k, hk, rfl, hacc, hgood⟩ := hrel
    have HG := Lib.hid hgood
    clear hgood
    by_cases hlt : k < l.length
    · rcases hr with hr | ⟨b, o, rfl, hb, hc⟩
      · subst hr; simp at hlt
      have hck : wr.cell? ⟨b, o + k, none⟩ = some (.string l[k]) := (hacc.cell (p := ⟨b, o + k, none⟩) (by simp; omega)).trans (hc k hlt)
      have HC := Lib.hid hc
      clear hc
      cases hpk : p l[k]
      · go_wp2_with fail
        refine (HP.out l[k] _ (HZ.out _ (List.getElem_mem hlt))).mono ?_
        rintro e w1 ⟨rfl, hb1⟩
        have hacc := acc0 hacc hacc.size hb1
        go_wp2
        go_ret
        exact ⟨ret_b (good_bad hlt (.inl hpk)).symm, hacc⟩
      · by_cases h0 : 0 < k
        · cases hlk : ltB (l[k - 1]'(by omega)) l[k]
          · have HL : Op.bytesLess (l[k - 1]'(by omega)).toList l[k].toList = false := hlk
            go_wp2_with fail
            refine (HP.out l[k] _ (HZ.out _ (List.getElem_mem hlt))).mono ?_
            rintro e w1 ⟨rfl, hb1⟩
            have hacc := acc0 hacc hacc.size hb1
            have hcp : w1.cell? ⟨b, o + (k - 1), none⟩ = some (.string (l[k - 1]'(by omega))) := (hacc.cell (p := ⟨b, o + (k - 1), none⟩) (by simp; omega)).trans (HC.out (k - 1) (by omega))
            go_wp2
            go_ret
            exact ⟨ret_b (good_bad hlt (.inr ⟨h0, hlk⟩)).symm, hacc⟩
          · have HL : Op.bytesLess (l[k - 1]'(by omega)).toList l[k].toList = true := hlk
            go_wp2_with fail
            refine (HP.out l[k] _ (HZ.out _ (List.getElem_mem hlt))).mono ?_
            rintro e w1 ⟨rfl, hb1⟩
            have hacc := acc0 hacc hacc.size hb1
            have hcp : w1.cell? ⟨b, o + (k - 1), none⟩ = some (.string (l[k - 1]'(by omega))) := (hacc.cell (p := ⟨b, o + (k - 1), none⟩) (by simp; omega)).trans (HC.out (k - 1) (by omega))
            go_wp2
            refine ⟨⟨k + 1, by omega, by go_num, hacc, good_succ hlt HG.out hpk (fun _ => hlk)⟩, by simp [intOf]; omega⟩
        · go_wp2_with fail
          refine (HP.out l[k] _ (HZ.out _ (List.getElem_mem hlt))).mono ?_
          rintro e w1 ⟨rfl, hb1⟩
          have hacc := acc0 hacc hacc.size hb1
          go_wp2
          refine ⟨⟨k + 1, by omega, by go_num, hacc, good_succ hlt HG.out hpk (fun h => absurd h h0)⟩, by simp [intOf]; omega⟩
    · go_wp2
      go_ret
      have e : k = l.length := by omega
      subst e
      exact ⟨ret_b (good_all HG.out).symm, hacc⟩

def bareT (t : Ty) : Ty :=
  if t.kind = 8 then .mk t.kind t.pkg t.major ⟨#[]⟩ ⟨#[]⟩ t.names t.subs
  else if t.kind = 9 then .mk t.kind ⟨#[]⟩ 0 ⟨#[]⟩ ⟨#[]⟩ t.names t.subs
  else t
theorem bare_c (t : Ty) (na : Option Addr) (nc : Nat) (sa : Option Addr) (sc : Nat) (w : World) :
    Calls Tryz.prog 176 #[.agg (tyCells t na nc sa sc)] w fun e w' => e = .returned (.agg (tyCells (bareT t) na nc sa sc)) ∧ Below w.heap.size w w' := by
  obtain ⟨k, p, m, mo, n, ns, ss⟩ := t
  by_cases h8 : k = 8
  · subst h8
    go_enter Tryz.func176, Tryz.ntmps176
    simp only [tyCells, bareT, Ty.kind, Ty.pkg, Ty.major, Ty.mod, Ty.name, Ty.names, Ty.subs, ↓reduceIte]
    go_wp2
    go_returns
    exact ⟨rfl, ((Below.refl _ _).alloc (Nat.le_refl _) _).alloc (by simp) _⟩
  · by_cases h9 : k = 9
    · subst h9
      go_enter Tryz.func176, Tryz.ntmps176
      simp only [tyCells, bareT, Ty.kind, Ty.pkg, Ty.major, Ty.mod, Ty.name, Ty.names, Ty.subs, ↓reduceIte]
      go_wp2
      go_returns
      exact ⟨rfl, ((Below.refl _ _).alloc (Nat.le_refl _) _).alloc (by simp) _⟩
    · go_enter Tryz.func176, Tryz.ntmps176
      simp only [tyCells, bareT, Ty.kind, Ty.pkg, Ty.major, Ty.mod, Ty.name, Ty.names, Ty.subs, h8, h9, ↓reduceIte]
      go_wp2
      go_returns
      exact ⟨rfl, ((Below.refl _ _).alloc (Nat.le_refl _) _).alloc (by simp) _⟩
end Go.Proofs.YtjeldfipipkfiaaGreat
namespace Go.Proofs.YtjeldfipipkfiaaGreat
open Go.RowKit
def emptyB (t : Ty) : Bool := t.pkg.toList.isEmpty && t.major == 0 && t.mod.toList.isEmpty && t.name.toList.isEmpty
def kindB (t : Ty) : Bool :=
  if t.kind = 1 ∨ t.kind = 2 ∨ t.kind = 3 then ((t.subs.length : Int) == 0) && ((t.names.length : Int) == 0)
  else if t.kind = 4 then ((t.subs.length : Int) == 1) && ((t.names.length : Int) == 0)
  else if t.kind = 5 then ((t.subs.length : Int) == (t.names.length : Int)) && namesB smallB t.names
  else if t.kind = 6 then decide ((1 : Int) ≤ t.subs.length) && ((t.subs.length : Int) == (t.names.length : Int)) && namesB greatB t.names
  else if t.kind = 7 then decide ((1 : Int) ≤ t.subs.length) && ((t.names.length : Int) == 0)
  else if t.kind = 8 then ((t.subs.length : Int) == 0) && ((t.names.length : Int) == 0) && greatB t.name && (t.mod.toList.isEmpty || smallB t.mod)
  else if t.kind = 9 then ((t.subs.length : Int) == 0) && ((t.names.length : Int) == 0) && smallB t.pkg && smallB t.mod && greatB t.name && decide (1 ≤ t.major) && decide (t.major ≤ 999999999)
  else false
def shapeB (t : Ty) : Bool := emptyB (bareT t) && decide ((t.subs.length : Int) ≤ 20) && kindB t
theorem great_b (s : ByteArray) (w : World) (hs : s.size ≤ maxLen) : Calls Tryz.prog 30 #[.string s] w fun e w' => e = .returned (.bool (greatB s)) ∧ Below w.heap.size w w' :=
  (Great_c s w hs).mono fun _ _ ⟨he, hw⟩ => ⟨he, hw ▸ Below.refl _ _⟩
theorem enter_small (a : Array Value) (w : World) : (callFunc 23 a).run Tryz.prog w = .ok (.enter 23 a) w := by kernel_rfl
theorem enter_great (a : Array Value) (w : World) : (callFunc 30 a).run Tryz.prog w = .ok (.enter 30 a) w := by kernel_rfl
set_option maxRecDepth 100000 in
set_option maxHeartbeats 1000000 in
theorem shape_c (t : Ty) (na : Option Addr) (nc : Nat) (sa : Option Addr) (sc : Nat) (B : Nat) (w : World) (hB : B ≤ w.heap.size) (hf : Fits t) (hn : StrsAt w B na t.names) :
    Calls Tryz.prog 163 #[.agg (tyCells t na nc sa sc)] w fun e w' => e = .returned (.bool (shapeB t)) ∧ Below w.heap.size w w' := by
  have HF := Lib.hid hf
  have HN := Lib.hid hn
  clear hn hf
  unfold tyCells
  go_enter Tryz.func163, Tryz.ntmps163
  go_wp2_with (first
    | (go_at_call 176; refine (bare_c t na nc sa sc _).mono ?_; rintro e w1 ⟨rfl, hb⟩; obtain ⟨hcell, hlt, hacc⟩ := box_keep hb; have hbx := (BoxAt.new _ _ _).under hb; unfold tyCells)
    | (go_at_call 177; (first | (with_reducible refine (names_any na nc B t.names 23 smallB _ HF.out.names HF.out.each ((HN.out.under (hacc.mono hB)).alloc (Nat.le_trans hB hacc.size) _) (by have := hacc.size; simp; omega) enter_small Small_c).mono ?_) | (with_reducible refine (names_any na nc B t.names 30 greatB _ HF.out.names HF.out.each ((HN.out.under (hacc.mono hB)).alloc (Nat.le_trans hB hacc.size) _) (by have := hacc.size; simp; omega) enter_great great_b).mono ?_)); rintro e w2 ⟨rfl, hb⟩; (first | have hacc := acc0 hacc hacc.size hb | have hacc := acc1 hacc hacc.size hb); (first | have hbx := hbx.under hb | have hbx := (hbx.alloc _).under hb); have hcell := hbx.2; have hlt := hbx.1)
    | (go_at_call 23; refine (Small_c _ _ (by first | exact HF.out.pkg | exact HF.out.mod | exact HF.out.name)).mono ?_; rintro e w2 ⟨rfl, hb⟩; (first | have hacc := acc0 hacc hacc.size hb | have hacc := acc1 hacc hacc.size hb); (first | have hbx := hbx.under hb | have hbx := (hbx.alloc _).under hb); have hcell := hbx.2; have hlt := hbx.1)
    | (go_at_call 30; refine (great_b _ _ (by first | exact HF.out.pkg | exact HF.out.mod | exact HF.out.name)).mono ?_; rintro e w2 ⟨rfl, hb⟩; (first | have hacc := acc0 hacc hacc.size hb | have hacc := acc1 hacc hacc.size hb); (first | have hbx := hbx.under hb | have hbx := (hbx.alloc _).under hb); have hcell := hbx.2; have hlt := hbx.1))
  all_goals
    go_ret
    refine ⟨ret_b ?_, by first | exact hacc | exact hacc.alloc hacc.size _⟩
    clear hbx HF HN hb hacc hlt
    go_tidy
    first
      | (simp_all [shapeB, emptyB, kindB]; done)
      | (simp_all [shapeB, emptyB, kindB]; omega)
      | go_show
end Go.Proofs.YtjeldfipipkfiaaGreat
namespace Go.Proofs.YtjeldfipipkfiaaGreat
open Go.RowKit
mutual
def countT : Ty → Int → Int → Int
  | .mk k p m mo n ns ss, d, q => if d < 1 ∨ q < 1 ∨ shapeB (.mk k p m mo n ns ss) = false then 0 else countL ss d q 1
def countL : List Ty → Int → Int → Int → Int
  | [], _, _, n => n
  | s :: ss, d, q, n => if countT s (d - 1) (q - n) = 0 then 0 else countL ss d q (n + countT s (d - 1) (q - n))
end
theorem countT_eq (t : Ty) (d q : Int) : countT t d q = if d < 1 ∨ q < 1 ∨ shapeB t = false then 0 else countL t.subs d q 1 := by
  cases t; rw [countT]; rfl
theorem count_bound (t : Ty) : ∀ d q : Int, 0 ≤ countT t d q ∧ (countT t d q ≤ q ∨ countT t d q = 0) := by
  induction t using Ty.ind with
  | h t ih =>
    intro d q
    rw [countT_eq]
    split
    · omega
    · rename_i hc
      have key : ∀ (l : List Ty) (n : Int), (∀ s ∈ l, s ∈ t.subs) → 1 ≤ n → n ≤ q → 0 ≤ countL l d q n ∧ (countL l d q n ≤ q ∨ countL l d q n = 0) := by
        intro l
        induction l with
        | nil => intro n _ h1 h2; rw [countL]; omega
        | cons s l ihl =>
          intro n hm h1 h2
          rw [countL]
          split
          · omega
          · have := ih s (hm s (by simp)) (d - 1) (q - n)
            exact ihl _ (fun x hx => hm x (by simp [hx])) (by omega) (by omega)
      exact key t.subs 1 (fun _ h => h) (by omega) (by omega)
set_option maxHeartbeats 1000000 in
theorem count_c (t : Ty) : ∀ (cs : Array Value) (d q : Int) (B : Nat) (w : World), TyC w B t cs → B ≤ w.heap.size → -9223372036854775808 ≤ d → d ≤ 1000 → -9223372036854775808 ≤ q → q ≤ 1000000 →
    Calls Tryz.prog 139 #[.agg cs, .int .i64 d, .int .i64 q] w fun e w' => e = .returned (.int .i64 (countT t d q)) ∧ Below w.heap.size w w' := by
  induction t using Ty.ind with
  | h t ih =>
    intro cs d q B w ht hB hd1 hd2 hq1 hq2
    obtain ⟨na, nc, sa, sc, f, rfl, hf, hn, hs, hnc, hsc, hsub⟩ := ht.inv
    have HE := Lib.hid (countT_eq t d q)
    by_cases hd : d < 1
    · have HR := Lib.hid (show countT t d q = 0 by rw [HE.out, if_pos (.inl hd)])
      unfold tyCells
      go_enter Tryz.func139, Tryz.ntmps139
      go_wp2
      go_ret
      exact ⟨ret_i HR.out.symm, (Below.refl _ _).alloc (Nat.le_refl _) _⟩
    · by_cases hq : q < 1
      · have HR := Lib.hid (show countT t d q = 0 by rw [HE.out, if_pos (.inr (.inl hq))])
        unfold tyCells
        go_enter Tryz.func139, Tryz.ntmps139
        go_wp2
        go_ret
        exact ⟨ret_i HR.out.symm, (Below.refl _ _).alloc (Nat.le_refl _) _⟩
      · have HF := Lib.hid hf
        have HN := Lib.hid hn
        cases hsh : shapeB t
        · have HR := Lib.hid (show countT t d q = 0 by rw [HE.out, if_pos (.inr (.inr hsh))])
          unfold tyCells
          go_enter Tryz.func139, Tryz.ntmps139
          go_wp2_with (go_at_call 163; refine (shape_c t na nc sa sc B _ (by simp; omega) HF.out (HN.out.alloc hB _)).mono ?_; rintro e w1 ⟨rfl, hb⟩; obtain ⟨hcell, hlt, hacc⟩ := box_keep hb)
          go_ret
          exact ⟨ret_i HR.out.symm, hacc⟩
        · have HR := Lib.hid (show countL t.subs d q 1 = countT t d q by rw [HE.out, if_neg (by rw [hsh]; simp; omega)])
          unfold tyCells
          go_enter Tryz.func139, Tryz.ntmps139
          go_wp2_with (go_at_call 163; refine (shape_c t na nc sa sc B _ (by simp; omega) HF.out (HN.out.alloc hB _)).mono ?_; rintro e w1 ⟨rfl, hb⟩; obtain ⟨hcell, hlt, hacc⟩ := box_keep hb)
          clear hcell
          have HH := Lib.hid ih
          have HS := Lib.hid hs
          have HU := Lib.hid hsub
          clear ih hs hsub
          have hnm := HF.out.subs
          unfold maxLen at hnm
          go_loopw [7, 25] (fun n i wr => ∃ (k : Nat) (c : Int), k ≤ t.subs.length ∧ i = .int .i64 k ∧ n = .int .i64 c ∧ Below w.heap.size w wr ∧ 1 ≤ c ∧ c ≤ q ∧ countL (t.subs.drop k) d q c = countT t d q) (fun _ i _ => t.subs.length - (intOf i).toNat)
          case atStart => exact ⟨0, 1, Nat.zero_le _, rfl, rfl, hacc, by omega, by omega, HR.out⟩
          case round =>
            clear hacc
            obtain ⟨k, c, hk, rfl, rfl, hacc, hc1, hc2, hcl⟩ := hrel
            have HC := Lib.hid hcl
            clear hcl
            by_cases hlt : k < t.subs.length
            · have hTk := (HU.out k hlt).under (hacc.mono hB)
              obtain ⟨b, o, na', nc', sa', sc', rfl, hbb, hfk, c0, c1, c2, c3, c4, c5, c6⟩ := TyC.elem (HS.out.keep fun p hp => hacc.cell (p := p) (by omega)) hlt hTk
              have HK := Lib.hid hfk
              have hdrop := Lib.hid (List.drop_eq_getElem_cons hlt)
              have hbd := count_bound t.subs[k] (d - 1) (q - c)
              clear hfk
              by_cases hz : countT t.subs[k] (d - 1) (q - c) = 0
              · go_wp2_with fail
                have hT2 := hTk.alloc (Nat.le_trans hB hacc.size) (.cells (tyCells t.subs[k] na' nc' sa' sc') 53)
                rw [HK.out] at hT2
                refine (HH.out t.subs[k] (List.getElem_mem hlt) _ _ _ B _ hT2 (by have := hacc.size; simp; omega) (by omega) (by omega) (by omega) (by omega)).mono ?_
                rintro e w2 ⟨rfl, hb2⟩
                have hacc := acc1 hacc hacc.size hb2
                clear hT2
                go_wp2
                go_ret
                have h := HC.out
                rw [hdrop.out, countL, if_pos hz] at h
                exact ⟨ret_i h, hacc⟩
              · go_wp2_with fail
                have hT2 := hTk.alloc (Nat.le_trans hB hacc.size) (.cells (tyCells t.subs[k] na' nc' sa' sc') 53)
                rw [HK.out] at hT2
                refine (HH.out t.subs[k] (List.getElem_mem hlt) _ _ _ B _ hT2 (by have := hacc.size; simp; omega) (by omega) (by omega) (by omega) (by omega)).mono ?_
                rintro e w2 ⟨rfl, hb2⟩
                have hacc := acc1 hacc hacc.size hb2
                clear hT2
                go_wp2
                go_roundw
                case rel =>
                  have h := HC.out
                  rw [hdrop.out, countL, if_neg hz] at h
                  exact ⟨k + 1, c + countT t.subs[k] (d - 1) (q - c), by omega, by go_num, rfl, hacc, by omega, by omega, h⟩
                case measure => simp [intOf]; omega
            · go_wp2
              go_ret
              have e : k = t.subs.length := by omega
              subst e
              have h := HC.out
              rw [List.drop_length, countL] at h
              exact ⟨ret_i h, hacc⟩
def sizeT (t : Ty) : Int := countT t 32 500
def mayT (t : Ty) : Bool := decide (0 < sizeT t)
theorem Size_c (t : Ty) (cs : Array Value) (B : Nat) (w : World) (ht : TyC w B t cs) (hB : B ≤ w.heap.size) :
    Calls Tryz.prog 89 #[.agg cs] w fun e w' => e = .returned (.int .i64 (sizeT t)) ∧ Below w.heap.size w w' := by
  obtain ⟨na, nc, sa, sc, f, rfl, -⟩ := ht.inv
  have HT := Lib.hid ht
  clear ht
  unfold tyCells
  go_enter Tryz.func89, Tryz.ntmps89
  go_wp2_with fail
  refine (count_c t _ _ _ B _ (HT.out.alloc hB _) (by simp; omega) (by omega) (by omega) (by omega) (by omega)).mono ?_
  rintro e w1 ⟨rfl, hb⟩
  go_wp2
  go_ret
  exact ⟨rfl, acc1 (Below.refl _ _) (Nat.le_refl _) hb⟩
theorem May_c (t : Ty) (cs : Array Value) (B : Nat) (w : World) (ht : TyC w B t cs) (hB : B ≤ w.heap.size) :
    Calls Tryz.prog 48 #[.agg cs] w fun e w' => e = .returned (.bool (mayT t)) ∧ Below w.heap.size w w' := by
  obtain ⟨na, nc, sa, sc, f, rfl, -⟩ := ht.inv
  have HT := Lib.hid ht
  clear ht
  unfold tyCells
  go_enter Tryz.func48, Tryz.ntmps48
  go_wp2_with fail
  refine (Size_c t _ B _ (HT.out.alloc hB _) (by simp; omega)).mono ?_
  rintro e w1 ⟨rfl, hb⟩
  go_wp2
  go_ret
  exact ⟨rfl, acc1 (Below.refl _ _) (Nat.le_refl _) hb⟩
end Go.Proofs.YtjeldfipipkfiaaGreat
namespace Go.Proofs.YtjeldfipipkfiaaGreat
open Go.RowKit
theorem below_drewN {B : Nat} {a w : World} (h : Below B a w) (n : Nat) : Below B a (w.drewN n) := ⟨h.os, h.tape, h.output, h.size, h.block⟩
theorem acc2 {B : Nat} {w a c : World} {o o' : Obj} (h : Below B w a) (hB : B ≤ a.heap.size) (hb : Below ((a.alloc o).alloc o').heap.size ((a.alloc o).alloc o') c) : Below B w c :=
  ((h.alloc hB o).alloc (Nat.le_trans hB (by simp)) o').trans (hb.mono (Nat.le_trans hB (by simp; omega)))
def equalB : List ByteArray → List ByteArray → Bool
  | [], [] => true
  | a :: l, b :: m => (a.toList == b.toList) && equalB l m
  | _, _ => false
theorem equalB_iff : ∀ l m : List ByteArray, equalB l m = true ↔ l = m
  | [], [] => by simp [equalB]
  | [], _ :: _ => by simp [equalB]
  | _ :: _, [] => by simp [equalB]
  | a :: l, b :: m => by rw [equalB, Bool.and_eq_true, ba_eq, decide_eq_true_eq, equalB_iff l m]; simp
theorem equalB_len {l m : List ByteArray} (h : l.length ≠ m.length) : equalB l m = false := by
  cases he : equalB l m
  · rfl
  · rw [(equalB_iff l m).1 he] at h; exact absurd rfl h
theorem equalB_at {l m : List ByteArray} {k : Nat} (h1 : k < l.length) (h2 : k < m.length) (h : l[k] ≠ m[k]) : equalB l m = false := by
  cases he : equalB l m
  · rfl
  · have := (equalB_iff l m).1 he; subst this; exact absurd rfl h
theorem equal_c (A A' : Option Addr) (c c' B : Nat) (l m : List ByteArray) (w : World) (hl : l.length ≤ maxLen) (_hm : m.length ≤ maxLen) (hr : StrsAt w B A l) (hr' : StrsAt w B A' m) :
    Calls Tryz.prog 152 #[.slice A l.length c, .slice A' m.length c'] w fun e w' => e = .returned (.bool (equalB l m)) ∧ Below w.heap.size w w' := by
  unfold maxLen at hl
  by_cases he : l.length = m.length
  · rw [← he]
    have HE := Lib.hid he
    clear he
    go_enter Tryz.func152, Tryz.ntmps152
    go_wp2
    go_loopw [13] (fun i w1 => ∃ k : Nat, k ≤ l.length ∧ i = .int .i64 k ∧ Below w.heap.size w w1 ∧ w1.heap = w.heap ∧ l.take k = m.take k) (fun i _ => l.length - (intOf i).toNat)
    case atStart => exact ⟨0, Nat.zero_le _, rfl, Below.refl _ _, rfl, rfl⟩
    case round =>
      obtain ⟨k, hk, rfl, hacc, hheap, htk⟩ := hrel
      have HT := Lib.hid htk
      have HH := Lib.hid hheap
      clear htk hheap
      by_cases hlt : k < l.length
      · have hlt' : k < m.length := by have := HE.out; omega
        rcases hr with hr | ⟨b, o, rfl, hb, hc⟩
        · subst hr; simp at hlt
        rcases hr' with hr' | ⟨b', o', rfl, hb', hc'⟩
        · subst hr'; simp at hlt'
        have h1 : wr.cell? ⟨b, o + k, none⟩ = some (.string l[k]) := by have := hc k hlt; unfold World.cell? at this ⊢; rw [HH.out]; exact this
        have h2 : wr.cell? ⟨b', o' + k, none⟩ = some (.string m[k]) := by have := hc' k hlt'; unfold World.cell? at this ⊢; rw [HH.out]; exact this
        clear hc hc'
        by_cases hx : l[k] = m[k]
        · have hy := ba_yes hx
          have HX := Lib.hid hx
          clear hx
          go_wp2
          go_quiet (fail)
          go_wp2
          refine ⟨⟨k + 1, by omega, by go_num, below_drewN hacc _, HH.out, ?_⟩, by simp [intOf]; omega⟩
          rw [List.take_succ_eq_append_getElem hlt, List.take_succ_eq_append_getElem hlt', HT.out, HX.out]
        · have hy := ba_no hx
          have HX := Lib.hid hx
          clear hx
          go_wp2
          go_quiet (fail)
          go_wp2
          go_ret
          exact ⟨ret_b (equalB_at hlt hlt' HX.out).symm, below_drewN hacc _⟩
      · go_wp2
        go_ret
        have e : k = l.length := by omega
        have h := HT.out
        rw [List.take_of_length_le (by omega), List.take_of_length_le (by have := HE.out; omega)] at h
        exact ⟨ret_b ((equalB_iff l m).2 h).symm, hacc⟩
  · have hq : ((l.length : Int) == (m.length : Int)) = false := by simp; omega
    have HE := Lib.hid he
    clear he
    go_enter Tryz.func152, Tryz.ntmps152
    go_wp2
    go_ret
    exact ⟨ret_b (equalB_len HE.out).symm, Below.refl _ _⟩
def flatB (a b : Ty) : Bool := a.kind == b.kind && (a.pkg.toList == b.pkg.toList) && a.major == b.major && (a.mod.toList == b.mod.toList) && (a.name.toList == b.name.toList) && equalB a.names b.names
mutual
def alikeT : Ty → Ty → Bool
  | .mk k p m mo n ns ss, b => flatB (.mk k p m mo n ns ss) b && alikeL ss b.subs
def alikeL : List Ty → List Ty → Bool
  | [], [] => true
  | s :: ss, t :: ts => alikeT s t && alikeL ss ts
  | _, _ => false
end
theorem alikeT_eq (a b : Ty) : alikeT a b = (flatB a b && alikeL a.subs b.subs) := by
  cases a; rw [alikeT]; rfl
theorem flatB_iff (a b : Ty) : flatB a b = true ↔ a.kind = b.kind ∧ a.pkg = b.pkg ∧ a.major = b.major ∧ a.mod = b.mod ∧ a.name = b.name ∧ a.names = b.names := by
  simp only [flatB, Bool.and_eq_true, ba_eq, decide_eq_true_eq, beq_iff_eq, equalB_iff]
  constructor
  · rintro ⟨⟨⟨⟨⟨h1, h2⟩, h3⟩, h4⟩, h5⟩, h6⟩; exact ⟨h1, h2, h3, h4, h5, h6⟩
  · rintro ⟨h1, h2, h3, h4, h5, h6⟩; exact ⟨⟨⟨⟨⟨h1, h2⟩, h3⟩, h4⟩, h5⟩, h6⟩
theorem alike_iff (a : Ty) : ∀ b : Ty, alikeT a b = true ↔ a = b := by
  induction a using Ty.ind with
  | h a ih =>
    intro b
    have key : ∀ (l m : List Ty), (∀ s ∈ l, s ∈ a.subs) → (alikeL l m = true ↔ l = m) := by
      intro l
      induction l with
      | nil => intro m _; cases m <;> simp [alikeL]
      | cons s l ihl =>
        intro m hm
        cases m with
        | nil => simp [alikeL]
        | cons t m =>
          rw [alikeL, Bool.and_eq_true, ih s (hm s (by simp)), ihl m (fun x hx => hm x (by simp [hx]))]
          simp
    rw [alikeT_eq, Bool.and_eq_true, flatB_iff, key a.subs b.subs (fun _ h => h)]
    obtain ⟨k, p, m, mo, n, ns, ss⟩ := a
    obtain ⟨k', p', m', mo', n', ns', ss'⟩ := b
    simp only [Ty.kind, Ty.pkg, Ty.major, Ty.mod, Ty.name, Ty.names, Ty.subs, Ty.mk.injEq]
    constructor
    · rintro ⟨⟨h1, h2, h3, h4, h5, h6⟩, h7⟩; exact ⟨h1, h2, h3, h4, h5, h6, h7⟩
    · rintro ⟨h1, h2, h3, h4, h5, h6, h7⟩; exact ⟨⟨h1, h2, h3, h4, h5, h6⟩, h7⟩
theorem alikeL_len : ∀ {l m : List Ty}, l.length ≠ m.length → alikeL l m = false
  | [], [], h => absurd rfl h
  | [], _ :: _, _ => rfl
  | _ :: _, [], _ => rfl
  | s :: l, t :: m, h => by rw [alikeL, alikeL_len (l := l) (m := m) (by simpa using h), Bool.and_false]
theorem alikeL_drop {l m : List Ty} {k : Nat} (h1 : k < l.length) (h2 : k < m.length) : alikeL (l.drop k) (m.drop k) = (alikeT l[k] m[k] && alikeL (l.drop (k + 1)) (m.drop (k + 1))) := by
  rw [List.drop_eq_getElem_cons h1, List.drop_eq_getElem_cons h2, alikeL]
set_option maxHeartbeats 1000000 in
theorem equalFunc_c (fn : Nat) (sa sa' : Option Addr) (c c' B : Nat) (l m : List Ty) (f g : Nat → Array Value) (w : World) (hl : l.length ≤ maxLen) (_hm : m.length ≤ maxLen) (hB : B ≤ w.heap.size)
    (hs : RowsAt w B sa l.length f) (hs' : RowsAt w B sa' m.length g) (hu : ∀ i (h : i < l.length), TyC w B l[i] (f i)) (hu' : ∀ i (h : i < m.length), TyC w B m[i] (g i))
    (hfn : ∀ (a : Array Value) (w : World), (callFunc fn a).run Tryz.prog w = .ok (.enter fn a) w)
    (hp : ∀ i (h : i < l.length) (h' : i < m.length) (w : World), TyC w B l[i] (f i) → TyC w B m[i] (g i) → B ≤ w.heap.size → Calls Tryz.prog fn #[.agg (f i), .agg (g i)] w fun e w' => e = .returned (.bool (alikeT l[i] m[i])) ∧ Below w.heap.size w w') :
    Calls Tryz.prog 153 #[.slice sa l.length c, .slice sa' m.length c', .func (.func fn) #[] #[]] w fun e w' => e = .returned (.bool (alikeL l m)) ∧ Below w.heap.size w w' := by
  unfold maxLen at hl
  have HP := Lib.hid hp
  have HS := Lib.hid hs
  have HS' := Lib.hid hs'
  have HU := Lib.hid hu
  have HU' := Lib.hid hu'
  clear hp hs hs' hu hu'
  by_cases he : l.length = m.length
  · rw [← he]
    have HE := Lib.hid he
    clear he
    go_enter Tryz.func153, Tryz.ntmps153
    go_wp2
    go_loopw [17] (fun i w1 => ∃ k : Nat, k ≤ l.length ∧ i = .int .i64 k ∧ Below w.heap.size w w1 ∧ alikeL (l.drop k) (m.drop k) = alikeL l m) (fun i _ => l.length - (intOf i).toNat)
    case atStart => exact ⟨0, Nat.zero_le _, rfl, Below.refl _ _, rfl⟩
    case round =>
      obtain ⟨k, hk, rfl, hacc, heq⟩ := hrel
      have HQ := Lib.hid heq
      clear heq
      by_cases hlt : k < l.length
      · have hlt' : k < m.length := by have := HE.out; omega
        have hT := (HU.out k hlt).under (hacc.mono hB)
        have hT' := (HU'.out k hlt').under (hacc.mono hB)
        obtain ⟨b, o, na, nc, sa1, sc1, rfl, hbb, hfk, c0, c1, c2, c3, c4, c5, c6⟩ := TyC.elem (HS.out.keep fun p hp => hacc.cell (p := p) (by omega)) hlt hT
        obtain ⟨b', o', na', nc', sa1', sc1', rfl, hbb', hfk', d0, d1, d2, d3, d4, d5, d6⟩ := TyC.elem (HS'.out.keep fun p hp => hacc.cell (p := p) (by omega)) hlt' hT'
        have HF := Lib.hid hfk
        have HF' := Lib.hid hfk'
        have hdrop := Lib.hid (alikeL_drop hlt hlt')
        have hsz := hacc.size
        have hbw : b' < wr.heap.size := by omega
        clear hfk hfk'
        go_wp2_with fail
        have hT1 := ((hT.alloc (Nat.le_trans hB hsz) (.cells (tyCells l[k] na nc sa1 sc1) 53)).alloc (by simp; omega) (.cells (tyCells m[k] na' nc' sa1' sc1') 53))
        have hT1' := ((hT'.alloc (Nat.le_trans hB hsz) (.cells (tyCells l[k] na nc sa1 sc1) 53)).alloc (by simp; omega) (.cells (tyCells m[k] na' nc' sa1' sc1') 53))
        have hcall := HP.out k hlt hlt' _ hT1 hT1' (by simp; omega)
        rw [HF.out, HF'.out] at hcall
        clear hT1 hT1'
        refine hcall.mono ?_
        clear hcall
        rintro e w1 ⟨rfl, hb1⟩
        have hacc1 : Below w.heap.size w w1 := acc2 hacc hsz hb1
        clear hacc
        cases hx : alikeT l[k] m[k]
        · go_wp2
          go_ret
          have h := HQ.out
          rw [hdrop.out, hx, Bool.false_and] at h
          exact ⟨ret_b h, hacc1⟩
        · go_wp2
          refine ⟨⟨k + 1, by omega, by go_num, hacc1, ?_⟩, by simp [intOf]; omega⟩
          have h := HQ.out
          rw [hdrop.out, hx, Bool.true_and] at h
          exact h
      · go_wp2
        go_ret
        have e : k = l.length := by omega
        have h := HQ.out
        rw [List.drop_of_length_le (by omega), List.drop_of_length_le (by have := HE.out; omega)] at h
        exact ⟨ret_b h, hacc⟩
  · have hq : ((l.length : Int) == (m.length : Int)) = false := by simp; omega
    have HE := Lib.hid he
    clear he
    go_enter Tryz.func153, Tryz.ntmps153
    go_wp2
    go_ret
    exact ⟨ret_b (alikeL_len HE.out).symm, Below.refl _ _⟩
theorem enter_alike (a : Array Value) (w : World) : (callFunc 114 a).run Tryz.prog w = .ok (.enter 114 a) w := by kernel_rfl
def flat5 (a b : Ty) : Bool := a.kind == b.kind && (a.pkg.toList == b.pkg.toList) && a.major == b.major && (a.mod.toList == b.mod.toList) && (a.name.toList == b.name.toList)
theorem alike_flat5 {a b : Ty} (h : flat5 a b = false) : alikeT a b = false := by
  rw [alikeT_eq, flatB]
  unfold flat5 at h
  rw [h]; rfl
theorem alike_of5 {a b : Ty} (h : flat5 a b = true) : alikeT a b = (equalB a.names b.names && alikeL a.subs b.subs) := by
  rw [alikeT_eq, flatB]
  unfold flat5 at h
  rw [h, Bool.true_and]
theorem flat5_eq {k p m mo n ns ss k' p' m' mo' n' ns' ss'} (h : flat5 (.mk k p m mo n ns ss) (.mk k' p' m' mo' n' ns' ss') = true) : k = k' ∧ p = p' ∧ m = m' ∧ mo = mo' ∧ n = n' := by
  simp only [flat5, Ty.kind, Ty.pkg, Ty.major, Ty.mod, Ty.name, Bool.and_eq_true, ba_eq, decide_eq_true_eq, beq_iff_eq] at h
  obtain ⟨⟨⟨⟨h1, h2⟩, h3⟩, h4⟩, h5⟩ := h
  exact ⟨h1, h2, h3, h4, h5⟩
theorem boxes (w : World) (C D : Array Value) (T : TypeId) : BoxAt ((w.alloc (.cells C T)).alloc (.cells D T)) w.heap.size C ∧ BoxAt ((w.alloc (.cells C T)).alloc (.cells D T)) (w.heap.size + 1) D := by
  refine ⟨(BoxAt.new _ _ _).alloc _, ?_⟩
  have := BoxAt.new (w.alloc (.cells C T)) D T
  rwa [World.size_alloc] at this
set_option maxHeartbeats 2000000 in
theorem alike_c (a : Ty) : ∀ (b : Ty) (cs cs' : Array Value) (B : Nat) (w : World), TyC w B a cs → TyC w B b cs' → B ≤ w.heap.size →
    Calls Tryz.prog 114 #[.agg cs, .agg cs'] w fun e w' => e = .returned (.bool (alikeT a b)) ∧ Below w.heap.size w w' := by
  induction a using Ty.ind with
  | h a ih =>
    intro b cs cs' B w ha hb hB
    obtain ⟨na, nc, sa, sc, f, rfl, hf, hn, hs, hnc, hsc, hsub⟩ := ha.inv
    obtain ⟨na', nc', sa', sc', f', rfl, hf', hn', hs', hnc', hsc', hsub'⟩ := hb.inv
    cases h5 : flat5 a b
    · have H5 := Lib.hid h5
      have HR := Lib.hid (alike_flat5 h5)
      clear h5 ih hf hf' hn hn' hs hs' hsub hsub' ha hb
      go_enter Tryz.func114, Tryz.ntmps114
      simp only [tyCells]
      go_wp2_with fail
      all_goals first
        | (go_ret
           exact ⟨ret_b HR.out.symm, ((Below.refl _ _).alloc (Nat.le_refl _) _).alloc (by simp) _⟩)
        | (exfalso
           have h := H5.out
           go_tidy
           simp_all [flat5])
    · have HR := Lib.hid (alike_of5 h5)
      obtain ⟨k, p, m, mo, n, ns, ss⟩ := a
      obtain ⟨k', p', m', mo', n', ns', ss'⟩ := b
      obtain ⟨rfl, rfl, rfl, rfl, rfl⟩ := flat5_eq h5
      have HI := Lib.hid ih
      have HF := Lib.hid hf
      have HF' := Lib.hid hf'
      have HN := Lib.hid hn
      have HN' := Lib.hid hn'
      have HS := Lib.hid hs
      have HS' := Lib.hid hs'
      have HU := Lib.hid hsub
      have HU' := Lib.hid hsub'
      clear ih ha hb hf hf' hn hn' hs hs' hsub hsub' h5
      go_enter Tryz.func114, Tryz.ntmps114
      simp only [tyCells, Ty.kind, Ty.pkg, Ty.major, Ty.mod, Ty.name, Ty.names, Ty.subs]
      go_wp2_with fail
      refine (equal_c na na' nc nc' B ns ns' _ HF.out.names HF'.out.names ((HN.out.alloc hB _).alloc (by simp; omega) _) ((HN'.out.alloc hB _).alloc (by simp; omega) _)).mono ?_
      rintro e w1 ⟨rfl, hb1⟩
      have hacc : Below w.heap.size w w1 := acc2 (Below.refl _ _) (Nat.le_refl _) hb1
      have hbx := (boxes _ _ _ _).1.under hb1
      have hby := (boxes _ _ _ _).2.under hb1
      cases hen : equalB ns ns'
      · go_wp2
        go_ret
        exact ⟨ret_b (by rw [HR.out]; show _ = (equalB ns ns' && _); rw [hen]; rfl), hacc⟩
      · obtain ⟨hx1, hx2⟩ := hbx
        obtain ⟨hy1, hy2⟩ := hby
        go_wp2_with fail
        refine (equalFunc_c 114 sa sa' sc sc' B ss ss' f f' w1 HF.out.subs HF'.out.subs (Nat.le_trans hB hacc.size) (HS.out.keep fun p hp => hacc.cell (p := p) (by omega)) (HS'.out.keep fun p hp => hacc.cell (p := p) (by omega))
          (fun i h => (HU.out i h).under (hacc.mono hB)) (fun i h => (HU'.out i h).under (hacc.mono hB)) enter_alike
          (fun i h h' W h1 h2 h3 => HI.out ss[i] (List.getElem_mem h) ss'[i] _ _ B W h1 h2 h3)).mono ?_
        rintro e w2 ⟨rfl, hb2⟩
        go_wp2
        go_ret
        exact ⟨ret_b (by rw [HR.out]; show _ = (equalB ns ns' && _); rw [hen]; rfl), acc0 hacc hacc.size hb2⟩
theorem Same_c (a b : Ty) (cs cs' : Array Value) (B : Nat) (w : World) (ha : TyC w B a cs) (hb : TyC w B b cs') (hB : B ≤ w.heap.size) :
    Calls Tryz.prog 63 #[.agg cs, .agg cs'] w fun e w' => e = .returned (.bool (mayT a && mayT b && alikeT a b)) ∧ Below w.heap.size w w' := by
  obtain ⟨na, nc, sa, sc, f, rfl, -⟩ := ha.inv
  obtain ⟨na', nc', sa', sc', f', rfl, -⟩ := hb.inv
  have HA := Lib.hid ha
  have HB := Lib.hid hb
  clear ha hb
  go_enter Tryz.func63, Tryz.ntmps63
  simp only [tyCells]
  go_wp2_with fail
  refine (May_c a _ B _ ((HA.out.alloc hB _).alloc (by simp; omega) _) (by simp; omega)).mono ?_
  rintro e w1 ⟨rfl, hb1⟩
  have hacc : Below w.heap.size w w1 := acc2 (Below.refl _ _) (Nat.le_refl _) hb1
  have hbx := (boxes _ _ _ _).1.under hb1
  have hby := (boxes _ _ _ _).2.under hb1
  have HX := Lib.hid hbx
  have HY := Lib.hid hby
  obtain ⟨hx1, hx2⟩ := hbx
  obtain ⟨hy1, hy2⟩ := hby
  cases h1 : mayT a
  · go_wp2
    go_ret
    exact ⟨ret_b (by simp [h1]), hacc⟩
  · go_wp2_with fail
    refine (May_c b _ B _ (HB.out.under (hacc.mono hB)) (Nat.le_trans hB hacc.size)).mono ?_
    rintro e w2 ⟨rfl, hb2⟩
    have hacc := acc0 hacc hacc.size hb2
    obtain ⟨hx3, hx4⟩ := HX.out.under hb2
    obtain ⟨hy3, hy4⟩ := HY.out.under hb2
    cases h2 : mayT b
    · go_wp2
      go_ret
      exact ⟨ret_b (by simp [h1, h2]), hacc⟩
    · go_wp2_with fail
      refine (alike_c a b _ _ B _ (HA.out.under (hacc.mono hB)) (HB.out.under (hacc.mono hB)) (Nat.le_trans hB hacc.size)).mono ?_
      rintro e w3 ⟨rfl, hb3⟩
      go_wp2
      go_ret
      exact ⟨ret_b (by simp [h1, h2]), acc0 hacc hacc.size hb3⟩
end Go.Proofs.YtjeldfipipkfiaaGreat
namespace Go.Proofs.YtjeldfipipkfiaaGreat
open Go.RowKit
mutual
def plainT : Ty → Bool
  | .mk k _ _ _ _ _ ss => (k != 8) && plainL ss
def plainL : List Ty → Bool
  | [] => true
  | s :: ss => plainT s && plainL ss
end
theorem plainT_eq (t : Ty) : plainT t = ((t.kind != 8) && plainL t.subs) := by cases t; rw [plainT]; rfl
theorem plainL_any : ∀ l : List Ty, (!(l.any fun s => !plainT s)) = plainL l
  | [] => by simp [plainL]
  | s :: l => by
    have := plainL_any l
    rw [plainL, ← this, List.any_cons]
    cases plainT s <;> simp
def firstP (p : Ty → Bool) : List Ty → Nat → Int
  | [], _ => -1
  | x :: l, k => if p x then (k : Int) else firstP p l (k + 1)
theorem firstP_any (p : Ty → Bool) : ∀ (l : List Ty) (k : Nat), decide (0 ≤ firstP p l k) = l.any p
  | [], k => by simp [firstP]
  | x :: l, k => by
    rw [firstP, List.any_cons]
    cases hx : p x
    · simpa using firstP_any p l (k + 1)
    · simp
set_option maxHeartbeats 1000000 in
theorem indexFunc_c (fn : Nat) (p : Ty → Bool) (sa : Option Addr) (c B : Nat) (l : List Ty) (f : Nat → Array Value) (w : World) (hl : l.length ≤ maxLen) (hB : B ≤ w.heap.size)
    (hs : RowsAt w B sa l.length f) (hu : ∀ i (h : i < l.length), TyC w B l[i] (f i))
    (hfn : ∀ (a : Array Value) (w : World), (callFunc fn a).run Tryz.prog w = .ok (.enter fn a) w)
    (hp : ∀ i (h : i < l.length) (w : World), TyC w B l[i] (f i) → B ≤ w.heap.size → Calls Tryz.prog fn #[.agg (f i)] w fun e w' => e = .returned (.bool (p l[i])) ∧ Below w.heap.size w w') :
    Calls Tryz.prog 140 #[.slice sa l.length c, .func (.func fn) #[] #[]] w fun e w' => e = .returned (.int .i64 (firstP p l 0)) ∧ Below w.heap.size w w' := by
  unfold maxLen at hl
  have HP := Lib.hid hp
  have HS := Lib.hid hs
  have HU := Lib.hid hu
  clear hp hs hu
  go_enter Tryz.func140, Tryz.ntmps140
  go_wp2
  go_loopw [8] (fun i w1 => ∃ k : Nat, k ≤ l.length ∧ i = .int .i64 k ∧ Below w.heap.size w w1 ∧ firstP p (l.drop k) k = firstP p l 0) (fun i _ => l.length - (intOf i).toNat)
  case atStart => exact ⟨0, Nat.zero_le _, rfl, Below.refl _ _, rfl⟩
  case round =>
    obtain ⟨k, hk, rfl, hacc, heq⟩ := hrel
    have HQ := Lib.hid heq
    clear heq
    by_cases hlt : k < l.length
    · have hT := (HU.out k hlt).under (hacc.mono hB)
      obtain ⟨b, o, na, nc, sa1, sc1, rfl, hbb, hfk, c0, c1, c2, c3, c4, c5, c6⟩ := TyC.elem (HS.out.keep fun p hp => hacc.cell (p := p) (by omega)) hlt hT
      have HF := Lib.hid hfk
      have hdrop := Lib.hid (List.drop_eq_getElem_cons hlt)
      have hsz := hacc.size
      clear hfk
      go_wp2_with fail
      have hcall := HP.out k hlt _ hT (Nat.le_trans hB hsz)
      rw [HF.out] at hcall
      refine hcall.mono ?_
      clear hcall
      rintro e w1 ⟨rfl, hb1⟩
      have hacc1 : Below w.heap.size w w1 := acc0 hacc hsz hb1
      clear hacc
      cases hx : p l[k]
      · go_wp2
        refine ⟨⟨k + 1, by omega, by go_num, hacc1, ?_⟩, by simp [intOf]; omega⟩
        have h := HQ.out
        rw [hdrop.out, firstP, hx] at h
        exact h
      · go_wp2
        go_ret
        have h := HQ.out
        rw [hdrop.out, firstP, if_pos hx] at h
        exact ⟨ret_i h, hacc1⟩
    · go_wp2
      go_ret
      have e : k = l.length := by omega
      have h := HQ.out
      rw [List.drop_of_length_le (by omega), firstP] at h
      exact ⟨ret_i h, hacc⟩
theorem containsFunc_c (fn : Nat) (p : Ty → Bool) (sa : Option Addr) (c B : Nat) (l : List Ty) (f : Nat → Array Value) (w : World) (hl : l.length ≤ maxLen) (hB : B ≤ w.heap.size)
    (hs : RowsAt w B sa l.length f) (hu : ∀ i (h : i < l.length), TyC w B l[i] (f i))
    (hfn : ∀ (a : Array Value) (w : World), (callFunc fn a).run Tryz.prog w = .ok (.enter fn a) w)
    (hp : ∀ i (h : i < l.length) (w : World), TyC w B l[i] (f i) → B ≤ w.heap.size → Calls Tryz.prog fn #[.agg (f i)] w fun e w' => e = .returned (.bool (p l[i])) ∧ Below w.heap.size w w') :
    Calls Tryz.prog 90 #[.slice sa l.length c, .func (.func fn) #[] #[]] w fun e w' => e = .returned (.bool (l.any p)) ∧ Below w.heap.size w w' := by
  have HH := Lib.hid (indexFunc_c fn p sa c B l f w hl hB hs hu hfn hp)
  clear hs hu hp hfn
  go_enter Tryz.func90, Tryz.ntmps90
  go_wp2_with fail
  refine (HH.out).mono ?_
  rintro e w1 ⟨rfl, hb1⟩
  go_wp2
  go_ret
  exact ⟨ret_b (firstP_any p l 0), hb1⟩
theorem enter_plain1 (a : Array Value) (w : World) : (callFunc 150 a).run Tryz.prog w = .ok (.enter 150 a) w := by kernel_rfl
theorem plain1_c (t : Ty) (cs : Array Value) (B : Nat) (w : World) (ht : TyC w B t cs) (hB : B ≤ w.heap.size)
    (hp : ∀ w : World, TyC w B t cs → B ≤ w.heap.size → Calls Tryz.prog 110 #[.agg cs] w fun e w' => e = .returned (.bool (plainT t)) ∧ Below w.heap.size w w') :
    Calls Tryz.prog 150 #[.agg cs] w fun e w' => e = .returned (.bool (!plainT t)) ∧ Below w.heap.size w w' := by
  obtain ⟨na, nc, sa, sc, f, rfl, -⟩ := ht.inv
  have HT := Lib.hid ht
  have HP := Lib.hid hp
  clear ht hp
  go_enter Tryz.func150, Tryz.ntmps150
  simp only [tyCells]
  go_wp2_with fail
  refine (HP.out _ (HT.out.alloc hB _) (by simp; omega)).mono ?_
  rintro e w1 ⟨rfl, hb⟩
  go_wp2
  go_ret
  exact ⟨rfl, acc1 (Below.refl _ _) (Nat.le_refl _) hb⟩
theorem plain_c (t : Ty) : ∀ (cs : Array Value) (B : Nat) (w : World), TyC w B t cs → B ≤ w.heap.size →
    Calls Tryz.prog 110 #[.agg cs] w fun e w' => e = .returned (.bool (plainT t)) ∧ Below w.heap.size w w' := by
  induction t using Ty.ind with
  | h t ih =>
    intro cs B w ht hB
    obtain ⟨na, nc, sa, sc, f, rfl, hf, hn, hs, hnc, hsc, hsub⟩ := ht.inv
    have HE := Lib.hid (plainT_eq t)
    have HI := Lib.hid ih
    have HF := Lib.hid hf
    have HS := Lib.hid hs
    have HU := Lib.hid hsub
    clear ih hf hn hs hsub ht
    by_cases h8 : t.kind = 8
    · go_enter Tryz.func110, Tryz.ntmps110
      simp only [tyCells]
      go_wp2
      go_ret
      exact ⟨ret_b (by rw [HE.out, h8]; rfl), (Below.refl _ _).alloc (Nat.le_refl _) _⟩
    · have h8' : (t.kind != 8) = true := by simpa using h8
      have H8 := Lib.hid h8'
      go_enter Tryz.func110, Tryz.ntmps110
      simp only [tyCells]
      go_wp2_with fail
      refine (containsFunc_c 150 (fun s => !plainT s) sa sc B t.subs f _ HF.out.subs (by simp; omega) (HS.out.keep fun p hp => World.cell?_alloc_lt _ _ _ (by omega)) (fun i h => (HU.out i h).alloc hB _) enter_plain1
        (fun i h W h1 h2 => plain1_c _ _ B W h1 h2 (fun W' h3 h4 => HI.out _ (List.getElem_mem h) _ B W' h3 h4))).mono ?_
      rintro e w1 ⟨rfl, hb⟩
      go_wp2
      go_ret
      exact ⟨ret_b (by rw [HE.out, H8.out, Bool.true_and]; exact plainL_any _), acc1 (Below.refl _ _) (Nat.le_refl _) hb⟩
def PlainB (t : Ty) : Bool := mayT t && plainT t
theorem Plain_c (t : Ty) (cs : Array Value) (B : Nat) (w : World) (ht : TyC w B t cs) (hB : B ≤ w.heap.size) :
    Calls Tryz.prog 56 #[.agg cs] w fun e w' => e = .returned (.bool (PlainB t)) ∧ Below w.heap.size w w' := by
  obtain ⟨na, nc, sa, sc, f, rfl, -⟩ := ht.inv
  have HT := Lib.hid ht
  clear ht
  go_enter Tryz.func56, Tryz.ntmps56
  simp only [tyCells]
  go_wp2_with fail
  refine (May_c t _ B _ (HT.out.alloc hB _) (by simp; omega)).mono ?_
  rintro e w1 ⟨rfl, hb⟩
  have hacc := acc1 (Below.refl _ _) (Nat.le_refl _) hb
  have hbx := (BoxAt.new _ _ _).under hb
  obtain ⟨hx1, hx2⟩ := hbx
  cases hm : mayT t
  · go_wp2
    go_ret
    exact ⟨ret_b (by simp [PlainB, hm]), hacc⟩
  · go_wp2_with fail
    refine (plain_c t _ B _ (HT.out.under (hacc.mono hB)) (Nat.le_trans hB hacc.size)).mono ?_
    rintro e w2 ⟨rfl, hb2⟩
    go_wp2
    go_ret
    exact ⟨ret_b (by simp [PlainB, hm]), acc0 hacc hacc.size hb2⟩
end Go.Proofs.YtjeldfipipkfiaaGreat
