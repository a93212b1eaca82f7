/- The contracts of package kind: which types may be; no condition but those of Go's own values. -/
import Derived.Test.YtjeldfipipkfiaaGreatDoorIdentC
namespace Go.Proofs.YtjeldfipipkfiaaGreatDoor
open Go.RowKit
def ltB (a b : ByteArray) : Bool := Op.bytesLess a.toList b.toList
/-- strictly rising -/
def riseB : List ByteArray → Bool
  | [] => true
  | [_] => true
  | a :: b :: l => ltB a b && riseB (b :: l)
theorem riseB_iff : ∀ l : List ByteArray, riseB l = true ↔ ∀ i (h : i + 1 < l.length), ltB l[i] l[i + 1] = true
  | [] => by simp [riseB]
  | [a] => by simp [riseB]
  | a :: b :: l => by
    rw [riseB, Bool.and_eq_true, riseB_iff (b :: l)]
    constructor
    · rintro ⟨h1, h2⟩ i hi
      cases i with
      | zero => exact h1
      | succ i => exact h2 i (by simpa using hi)
    · intro h
      exact ⟨h 0 (by simp), fun i hi => h (i + 1) (by simpa using hi)⟩
def namesB (p : ByteArray → Bool) (l : List ByteArray) : Bool := l.all p && riseB l
/-- the first k names fit -/
def Good (p : ByteArray → Bool) (l : List ByteArray) (k : Nat) : Prop := ∀ i (h : i < l.length), i < k → p l[i] = true ∧ ∀ h0 : 0 < i, ltB (l[i - 1]'(by omega)) l[i] = true
theorem good_all {p : ByteArray → Bool} {l : List ByteArray} (h : Good p l l.length) : namesB p l = true := by
  rw [namesB, Bool.and_eq_true, riseB_iff]
  refine ⟨?_, fun i hi => (h (i + 1) hi hi).2 (by omega)⟩
  rw [List.all_eq_true]
  intro x hx
  obtain ⟨i, hi, rfl⟩ := List.getElem_of_mem hx
  exact (h i hi hi).1
theorem all_good {p : ByteArray → Bool} {l : List ByteArray} (h : namesB p l = true) : Good p l l.length := by
  rw [namesB, Bool.and_eq_true, riseB_iff, List.all_eq_true] at h
  refine fun i hi _ => ⟨h.1 _ (List.getElem_mem hi), fun h0 => ?_⟩
  obtain ⟨j, rfl⟩ : ∃ j, i = j + 1 := ⟨i - 1, by omega⟩
  exact h.2 j hi
theorem good_bad {p : ByteArray → Bool} {l : List ByteArray} {k : Nat} (hk : k < l.length) (h : p l[k] = false ∨ ∃ h0 : 0 < k, ltB (l[k - 1]'(by omega)) l[k] = false) : namesB p l = false := by
  cases hn : namesB p l
  · rfl
  · have := all_good hn k hk hk
    rcases h with h | ⟨h0, h⟩
    · rw [this.1] at h; cases h
    · rw [this.2 h0] at h; cases h
theorem good_succ {p : ByteArray → Bool} {l : List ByteArray} {k : Nat} (hk : k < l.length) (h : Good p l k) (h1 : p l[k] = true) (h2 : ∀ h0 : 0 < k, ltB (l[k - 1]'(by omega)) l[k] = true) : Good p l (k + 1) := by
  intro i hi hik
  by_cases e : i = k
  · subst e; exact ⟨h1, h2⟩
  · exact h i hi (by omega)
set_option maxHeartbeats 1000000 in
theorem names_any (A : Option Addr) (c B : Nat) (l : List ByteArray) (fn : Nat) (p : ByteArray → Bool) (w : World) (hl : l.length ≤ maxLen) (hz : ∀ s ∈ l, s.size ≤ maxLen) (hr : StrsAt w B A l) (hB : B ≤ w.heap.size)
    (hfn : ∀ (a : Array Value) (w : World), (callFunc fn a).run Tryz.prog w = .ok (.enter fn a) w)
    (hp : ∀ (s : ByteArray) (w : World), s.size ≤ maxLen → Calls Tryz.prog fn #[.string s] w fun e w' => e = .returned (.bool (p s)) ∧ Below w.heap.size w w') :
    Calls Tryz.prog 231 #[.slice A l.length c, .func (.func fn) #[] #[]] w fun e w' => e = .returned (.bool (namesB p l)) ∧ Below w.heap.size w w' := by
  unfold maxLen at hl
  have HP := Lib.hid hp
  have HZ := Lib.hid hz
  clear hp hz
  go_enter Tryz.func231, Tryz.ntmps231
  go_wp2
  go_loopw [9] (fun i w1 => ∃ k : Nat, k ≤ l.length ∧ i = .int .i64 k ∧ Below w.heap.size w w1 ∧ Good p l k) (fun i _ => l.length - (intOf i).toNat)
  case atStart => exact ⟨0, Nat.zero_le _, rfl, Below.refl _ _, fun i _ hi => absurd hi (by omega)⟩
  case round =>
    obtain ⟨k, hk, rfl, hacc, hgood⟩ := hrel
    have HG := Lib.hid hgood
    clear hgood
    by_cases hlt : k < l.length
    · rcases hr with hr | ⟨b, o, rfl, hb, hc⟩
      · subst hr; simp at hlt
      have hck : wr.cell? ⟨b, o + k, none⟩ = some (.string l[k]) := (hacc.cell (p := ⟨b, o + k, none⟩) (by simp; omega)).trans (hc k hlt)
      have HC := Lib.hid hc
      clear hc
      cases hpk : p l[k]
      · go_wp2_with fail
        refine (HP.out l[k] _ (HZ.out _ (List.getElem_mem hlt))).mono ?_
        rintro e w1 ⟨rfl, hb1⟩
        have hacc := acc0 hacc hacc.size hb1
        go_wp2
        go_ret
        exact ⟨ret_b (good_bad hlt (.inl hpk)).symm, hacc⟩
      · by_cases h0 : 0 < k
        · cases hlk : ltB (l[k - 1]'(by omega)) l[k]
          · have HL : Op.bytesLess (l[k - 1]'(by omega)).toList l[k].toList = false := hlk
            go_wp2_with fail
            refine (HP.out l[k] _ (HZ.out _ (List.getElem_mem hlt))).mono ?_
            rintro e w1 ⟨rfl, hb1⟩
            have hacc := acc0 hacc hacc.size hb1
            have hcp : w1.cell? ⟨b, o + (k - 1), none⟩ = some (.string (l[k - 1]'(by omega))) := (hacc.cell (p := ⟨b, o + (k - 1), none⟩) (by simp; omega)).trans (HC.out (k - 1) (by omega))
            go_wp2
            go_ret
            exact ⟨ret_b (good_bad hlt (.inr ⟨h0, hlk⟩)).symm, hacc⟩
          · have HL : Op.bytesLess (l[k - 1]'(by omega)).toList l[k].toList = true := hlk
            go_wp2_with fail
            refine (HP.out l[k] _ (HZ.out _ (List.getElem_mem hlt))).mono ?_
            rintro e w1 ⟨rfl, hb1⟩
            have hacc := acc0 hacc hacc.size hb1
            have hcp : w1.cell? ⟨b, o + (k - 1), none⟩ = some (.string (l[k - 1]'(by omega))) := (hacc.cell (p := ⟨b, o + (k - 1), none⟩) (by simp; omega)).trans (HC.out (k - 1) (by omega))
            go_wp2
            refine ⟨⟨k + 1, by omega, by go_num, hacc, good_succ hlt HG.out hpk (fun _ => hlk)⟩, by simp [intOf]; omega⟩
        · go_wp2_with fail
          refine (HP.out l[k] _ (HZ.out _ (List.getElem_mem hlt))).mono ?_
          rintro e w1 ⟨rfl, hb1⟩
          have hacc := acc0 hacc hacc.size hb1
          go_wp2
          refine ⟨⟨k + 1, by omega, by go_num, hacc, good_succ hlt HG.out hpk (fun h => absurd h h0)⟩, by simp [intOf]; omega⟩
    · go_wp2
      go_ret
      have e : k = l.length := by omega
      subst e
      exact ⟨ret_b (good_all HG.out).symm, hacc⟩

/-- the fields of a type, bare: as 'bare' leaves them -/
def bareT (t : Ty) : Ty :=
  if t.kind = 8 then .mk t.kind t.pkg t.major ⟨#[]⟩ ⟨#[]⟩ t.names t.subs
  else if t.kind = 9 then .mk t.kind ⟨#[]⟩ 0 ⟨#[]⟩ ⟨#[]⟩ t.names t.subs
  else t
theorem bare_c (t : Ty) (na : Option Addr) (nc : Nat) (sa : Option Addr) (sc : Nat) (w : World) :
    Calls Tryz.prog 230 #[.agg (tyCells t na nc sa sc)] w fun e w' => e = .returned (.agg (tyCells (bareT t) na nc sa sc)) ∧ Below w.heap.size w w' := by
  obtain ⟨k, p, m, mo, n, ns, ss⟩ := t
  by_cases h8 : k = 8
  · subst h8
    go_enter Tryz.func230, Tryz.ntmps230
    simp only [tyCells, bareT, Ty.kind, Ty.pkg, Ty.major, Ty.mod, Ty.name, Ty.names, Ty.subs, ↓reduceIte]
    go_wp2
    go_returns
    exact ⟨rfl, ((Below.refl _ _).alloc (Nat.le_refl _) _).alloc (by simp) _⟩
  · by_cases h9 : k = 9
    · subst h9
      go_enter Tryz.func230, Tryz.ntmps230
      simp only [tyCells, bareT, Ty.kind, Ty.pkg, Ty.major, Ty.mod, Ty.name, Ty.names, Ty.subs, ↓reduceIte]
      go_wp2
      go_returns
      exact ⟨rfl, ((Below.refl _ _).alloc (Nat.le_refl _) _).alloc (by simp) _⟩
    · go_enter Tryz.func230, Tryz.ntmps230
      simp only [tyCells, bareT, Ty.kind, Ty.pkg, Ty.major, Ty.mod, Ty.name, Ty.names, Ty.subs, h8, h9, ↓reduceIte]
      go_wp2
      go_returns
      exact ⟨rfl, ((Below.refl _ _).alloc (Nat.le_refl _) _).alloc (by simp) _⟩
end Go.Proofs.YtjeldfipipkfiaaGreatDoor
