/- The contract of sub.of: what a record, or a variant, has of a name; the premise: its names rise and are no more than its types. -/
import Derived.Test.YtjeldfipipkfiaaGreatDoorSearch
namespace Go.Proofs.YtjeldfipipkfiaaGreatDoor
open Go.RowKit
set_option linter.unusedSimpArgs false
set_option linter.unusedVariables false
def zeroTy : Ty := .mk 0 ⟨#[]⟩ 0 ⟨#[]⟩ ⟨#[]⟩ [] []
theorem zero_fits : Fits zeroTy := ⟨by decide, by decide, by decide, by decide, by decide, by decide, (by intro s h; cases h), by decide⟩
theorem zero_tyc (w : World) (B : Nat) : TyC w B zeroTy #[.int .i64 0, .string ⟨#[]⟩, .int .i64 0, .string ⟨#[]⟩, .string ⟨#[]⟩, .slice none 0 0, .slice none 0 0] :=
  .mk zeroTy none 0 none 0 (fun _ => #[]) zero_fits (.inl rfl) (.inl rfl) (Nat.le_refl _) (Nat.le_refl _) (fun i h => absurd h (by show ¬ i < 0; omega))
theorem firstOf_lt : ∀ {l : List ByteArray} {s : ByteArray}, memB s l = true → firstOf l s < l.length
  | [], _, h => by simp [memB] at h
  | x :: l, s, h => by
    simp only [memB, Bool.or_eq_true, decide_eq_true_eq] at h
    simp only [firstOf, List.length_cons]
    split
    · omega
    · rename_i hx
      have := firstOf_lt (h.resolve_left hx)
      omega
theorem firstOf_at : ∀ {l : List ByteArray} {s : ByteArray} (h : firstOf l s < l.length), l[firstOf l s] = s
  | [], _, h => by simp at h
  | x :: l, s, h => by
    by_cases hx : x = s
    · simp [firstOf, hx]
    · have h' : firstOf l s < l.length := by simpa [firstOf, hx] using h
      have := firstOf_at h'
      simp [firstOf, hx, this]
def ofT (t : Ty) (s : ByteArray) : Ty := if memB s t.names = true then t.subs.getD (firstOf t.names s) zeroTy else zeroTy
structure RowsOk (t : Ty) : Prop where
  rise : riseB t.names = true
  len : t.names.length ≤ t.subs.length
  small : t.subs.length ≤ 1000
set_option maxHeartbeats 1000000 in
theorem of_c (t : Ty) (s : ByteArray) (cs : Array Value) (B : Nat) (w : World) (ht : TyC w B t cs) (hB : B ≤ w.heap.size) (hrow : RowsOk t) :
    Calls Tryz.prog 240 #[.agg cs, .string s] w fun e w' => (∃ cs', e = .returned (.tuple #[.agg cs', .bool (memB s t.names)]) ∧ TyC w' B (ofT t s) cs') ∧ Below w.heap.size w w' := by
  obtain ⟨na, nc, sa, sc, f, rfl, hf, hn, hs, hnc, hsc, hsub⟩ := ht.inv
  have HR := Lib.hid hrow
  have HN := Lib.hid hn
  have HS := Lib.hid hs
  have HU := Lib.hid hsub
  have hle := hrow.len
  have hsm := hrow.small
  clear hrow hn hs hsub ht hf
  go_enter Tryz.func240, Tryz.ntmps240
  simp only [tyCells]
  go_wp2_with fail
  refine (bsearch_c na nc B t.names s _ (by have := HR.out.len; have := HR.out.small; omega) ((HN.out.alloc hB _).alloc (by simp; omega) _) HR.out.rise).mono ?_
  rintro e w1 ⟨⟨i, rfl, hi⟩, rfl⟩
  cases hm : memB s t.names
  · have HE := Lib.hid (show ofT t s = zeroTy by rw [ofT, hm]; rfl)
    clear hi
    go_wp2
    go_returns
    exact ⟨⟨_, by rw [hm], by rw [HE.out]; exact zero_tyc _ _⟩, ((Below.refl _ _).alloc (Nat.le_refl _) _).alloc (by simp) _⟩
  · have e : i = (firstOf t.names s : Int) := hi hm
    have hlt : firstOf t.names s < t.subs.length := Nat.lt_of_lt_of_le (firstOf_lt hm) hle
    have HE := Lib.hid (show ofT t s = t.subs[firstOf t.names s] by
      rw [ofT, if_pos hm, List.getD_eq_getElem?_getD, List.getElem?_eq_getElem hlt]; rfl)
    subst e
    clear hi
    generalize firstOf t.names s = k at *
    obtain ⟨b, o, na', nc', sa', sc', rfl, hbb, hfk, c0, c1, c2, c3, c4, c5, c6⟩ := TyC.elem HS.out hlt (HU.out k hlt)
    have HK := Lib.hid hfk
    have hbw : b < w.heap.size := by omega
    clear hfk
    go_wp2
    go_returns
    refine ⟨⟨tyCells t.subs[k] na' nc' sa' sc', by rw [hm]; rfl, ?_⟩, ((Below.refl _ _).alloc (Nat.le_refl _) _).alloc (by simp) _⟩
    rw [HE.out, ← HK.out]
    exact (((HU.out k hlt).alloc hB _).alloc (by simp; omega) _)
end Go.Proofs.YtjeldfipipkfiaaGreatDoor
