/- The contracts of slices.IndexFunc, slices.ContainsFunc, kind.plain and kind.Plain; no condition but those of Go's own values. -/
import Derived.Test.YtjeldfipipkfiaaGreatDoorSame
namespace Go.Proofs.YtjeldfipipkfiaaGreatDoor
open Go.RowKit
mutual
def plainT : Ty → Bool
  | .mk k _ _ _ _ _ ss => (k != 8) && plainL ss
def plainL : List Ty → Bool
  | [] => true
  | s :: ss => plainT s && plainL ss
end
theorem plainT_eq (t : Ty) : plainT t = ((t.kind != 8) && plainL t.subs) := by cases t; rw [plainT]; rfl
theorem plainL_any : ∀ l : List Ty, (!(l.any fun s => !plainT s)) = plainL l
  | [] => by simp [plainL]
  | s :: l => by
    have := plainL_any l
    rw [plainL, ← this, List.any_cons]
    cases plainT s <;> simp
def firstP (p : Ty → Bool) : List Ty → Nat → Int
  | [], _ => -1
  | x :: l, k => if p x then (k : Int) else firstP p l (k + 1)
theorem firstP_any (p : Ty → Bool) : ∀ (l : List Ty) (k : Nat), decide (0 ≤ firstP p l k) = l.any p
  | [], k => by simp [firstP]
  | x :: l, k => by
    rw [firstP, List.any_cons]
    cases hx : p x
    · simpa using firstP_any p l (k + 1)
    · simp
set_option maxHeartbeats 1000000 in
theorem indexFunc_c (fn : Nat) (p : Ty → Bool) (sa : Option Addr) (c B : Nat) (l : List Ty) (f : Nat → Array Value) (w : World) (hl : l.length ≤ maxLen) (hB : B ≤ w.heap.size)
    (hs : RowsAt w B sa l.length f) (hu : ∀ i (h : i < l.length), TyC w B l[i] (f i))
    (hfn : ∀ (a : Array Value) (w : World), (callFunc fn a).run Tryz.prog w = .ok (.enter fn a) w)
    (hp : ∀ i (h : i < l.length) (w : World), TyC w B l[i] (f i) → B ≤ w.heap.size → Calls Tryz.prog fn #[.agg (f i)] w fun e w' => e = .returned (.bool (p l[i])) ∧ Below w.heap.size w w') :
    Calls Tryz.prog 188 #[.slice sa l.length c, .func (.func fn) #[] #[]] w fun e w' => e = .returned (.int .i64 (firstP p l 0)) ∧ Below w.heap.size w w' := by
  unfold maxLen at hl
  have HP := Lib.hid hp
  have HS := Lib.hid hs
  have HU := Lib.hid hu
  clear hp hs hu
  go_enter Tryz.func188, Tryz.ntmps188
  go_wp2
  go_loopw [8] (fun i w1 => ∃ k : Nat, k ≤ l.length ∧ i = .int .i64 k ∧ Below w.heap.size w w1 ∧ firstP p (l.drop k) k = firstP p l 0) (fun i _ => l.length - (intOf i).toNat)
  case atStart => exact ⟨0, Nat.zero_le _, rfl, Below.refl _ _, rfl⟩
  case round =>
    obtain ⟨k, hk, rfl, hacc, heq⟩ := hrel
    have HQ := Lib.hid heq
    clear heq
    by_cases hlt : k < l.length
    · have hT := (HU.out k hlt).under (hacc.mono hB)
      obtain ⟨b, o, na, nc, sa1, sc1, rfl, hbb, hfk, c0, c1, c2, c3, c4, c5, c6⟩ := TyC.elem (HS.out.keep fun p hp => hacc.cell (p := p) (by omega)) hlt hT
      have HF := Lib.hid hfk
      have hdrop := Lib.hid (List.drop_eq_getElem_cons hlt)
      have hsz := hacc.size
      clear hfk
      go_wp2_with fail
      have hcall := HP.out k hlt _ hT (Nat.le_trans hB hsz)
      rw [HF.out] at hcall
      refine hcall.mono ?_
      clear hcall
      rintro e w1 ⟨rfl, hb1⟩
      have hacc1 : Below w.heap.size w w1 := acc0 hacc hsz hb1
      clear hacc
      cases hx : p l[k]
      · go_wp2
        refine ⟨⟨k + 1, by omega, by go_num, hacc1, ?_⟩, by simp [intOf]; omega⟩
        have h := HQ.out
        rw [hdrop.out, firstP, hx] at h
        exact h
      · go_wp2
        go_ret
        have h := HQ.out
        rw [hdrop.out, firstP, if_pos hx] at h
        exact ⟨ret_i h, hacc1⟩
    · go_wp2
      go_ret
      have e : k = l.length := by omega
      have h := HQ.out
      rw [List.drop_of_length_le (by omega), firstP] at h
      exact ⟨ret_i h, hacc⟩
theorem containsFunc_c (fn : Nat) (p : Ty → Bool) (sa : Option Addr) (c B : Nat) (l : List Ty) (f : Nat → Array Value) (w : World) (hl : l.length ≤ maxLen) (hB : B ≤ w.heap.size)
    (hs : RowsAt w B sa l.length f) (hu : ∀ i (h : i < l.length), TyC w B l[i] (f i))
    (hfn : ∀ (a : Array Value) (w : World), (callFunc fn a).run Tryz.prog w = .ok (.enter fn a) w)
    (hp : ∀ i (h : i < l.length) (w : World), TyC w B l[i] (f i) → B ≤ w.heap.size → Calls Tryz.prog fn #[.agg (f i)] w fun e w' => e = .returned (.bool (p l[i])) ∧ Below w.heap.size w w') :
    Calls Tryz.prog 124 #[.slice sa l.length c, .func (.func fn) #[] #[]] w fun e w' => e = .returned (.bool (l.any p)) ∧ Below w.heap.size w w' := by
  have HH := Lib.hid (indexFunc_c fn p sa c B l f w hl hB hs hu hfn hp)
  clear hs hu hp hfn
  go_enter Tryz.func124, Tryz.ntmps124
  go_wp2_with fail
  refine (HH.out).mono ?_
  rintro e w1 ⟨rfl, hb1⟩
  go_wp2
  go_ret
  exact ⟨ret_b (firstP_any p l 0), hb1⟩
theorem enter_plain1 (a : Array Value) (w : World) : (callFunc 134 a).run Tryz.prog w = .ok (.enter 134 a) w := by kernel_rfl
theorem plain1_c (t : Ty) (cs : Array Value) (B : Nat) (w : World) (ht : TyC w B t cs) (hB : B ≤ w.heap.size)
    (hp : ∀ w : World, TyC w B t cs → B ≤ w.heap.size → Calls Tryz.prog 78 #[.agg cs] w fun e w' => e = .returned (.bool (plainT t)) ∧ Below w.heap.size w w') :
    Calls Tryz.prog 134 #[.agg cs] w fun e w' => e = .returned (.bool (!plainT t)) ∧ Below w.heap.size w w' := by
  obtain ⟨na, nc, sa, sc, f, rfl, -⟩ := ht.inv
  have HT := Lib.hid ht
  have HP := Lib.hid hp
  clear ht hp
  go_enter Tryz.func134, Tryz.ntmps134
  simp only [tyCells]
  go_wp2_with fail
  refine (HP.out _ (HT.out.alloc hB _) (by simp; omega)).mono ?_
  rintro e w1 ⟨rfl, hb⟩
  go_wp2
  go_ret
  exact ⟨rfl, acc1 (Below.refl _ _) (Nat.le_refl _) hb⟩
theorem plain_c (t : Ty) : ∀ (cs : Array Value) (B : Nat) (w : World), TyC w B t cs → B ≤ w.heap.size →
    Calls Tryz.prog 78 #[.agg cs] w fun e w' => e = .returned (.bool (plainT t)) ∧ Below w.heap.size w w' := by
  induction t using Ty.ind with
  | h t ih =>
    intro cs B w ht hB
    obtain ⟨na, nc, sa, sc, f, rfl, hf, hn, hs, hnc, hsc, hsub⟩ := ht.inv
    have HE := Lib.hid (plainT_eq t)
    have HI := Lib.hid ih
    have HF := Lib.hid hf
    have HS := Lib.hid hs
    have HU := Lib.hid hsub
    clear ih hf hn hs hsub ht
    by_cases h8 : t.kind = 8
    · go_enter Tryz.func78, Tryz.ntmps78
      simp only [tyCells]
      go_wp2
      go_ret
      exact ⟨ret_b (by rw [HE.out, h8]; rfl), (Below.refl _ _).alloc (Nat.le_refl _) _⟩
    · have h8' : (t.kind != 8) = true := by simpa using h8
      have H8 := Lib.hid h8'
      go_enter Tryz.func78, Tryz.ntmps78
      simp only [tyCells]
      go_wp2_with fail
      refine (containsFunc_c 134 (fun s => !plainT s) sa sc B t.subs f _ HF.out.subs (by simp; omega) (HS.out.keep fun p hp => World.cell?_alloc_lt _ _ _ (by omega)) (fun i h => (HU.out i h).alloc hB _) enter_plain1
        (fun i h W h1 h2 => plain1_c _ _ B W h1 h2 (fun W' h3 h4 => HI.out _ (List.getElem_mem h) _ B W' h3 h4))).mono ?_
      rintro e w1 ⟨rfl, hb⟩
      go_wp2
      go_ret
      exact ⟨ret_b (by rw [HE.out, H8.out, Bool.true_and]; exact plainL_any _), acc1 (Below.refl _ _) (Nat.le_refl _) hb⟩
def PlainB (t : Ty) : Bool := mayT t && plainT t
theorem Plain_c (t : Ty) (cs : Array Value) (B : Nat) (w : World) (ht : TyC w B t cs) (hB : B ≤ w.heap.size) :
    Calls Tryz.prog 36 #[.agg cs] w fun e w' => e = .returned (.bool (PlainB t)) ∧ Below w.heap.size w w' := by
  obtain ⟨na, nc, sa, sc, f, rfl, -⟩ := ht.inv
  have HT := Lib.hid ht
  clear ht
  go_enter Tryz.func36, Tryz.ntmps36
  simp only [tyCells]
  go_wp2_with fail
  refine (May_c t _ B _ (HT.out.alloc hB _) (by simp; omega)).mono ?_
  rintro e w1 ⟨rfl, hb⟩
  have hacc := acc1 (Below.refl _ _) (Nat.le_refl _) hb
  have hbx := (BoxAt.new _ _ _).under hb
  obtain ⟨hx1, hx2⟩ := hbx
  cases hm : mayT t
  · go_wp2
    go_ret
    exact ⟨ret_b (by simp [PlainB, hm]), hacc⟩
  · go_wp2_with fail
    refine (plain_c t _ B _ (HT.out.under (hacc.mono hB)) (Nat.le_trans hB hacc.size)).mono ?_
    rintro e w2 ⟨rfl, hb2⟩
    go_wp2
    go_ret
    exact ⟨ret_b (by simp [PlainB, hm]), acc0 hacc hacc.size hb2⟩
end Go.Proofs.YtjeldfipipkfiaaGreatDoor
