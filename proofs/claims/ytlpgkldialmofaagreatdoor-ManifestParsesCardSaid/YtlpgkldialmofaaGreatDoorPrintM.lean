/- The contracts of manifest.Print and of merlonref14.Print; premise of the first: strconv's table is as the program lays it. -/
import Derived.Test.YtlpgkldialmofaaGreatDoorMayR
namespace Go.Proofs.YtlpgkldialmofaaGreatDoor
open Go.RowKit
set_option linter.unusedSimpArgs false
set_option linter.unusedVariables false
theorem small_size {s : ByteArray} (h : Idn.smallB s = true) : s.size ≤ 20 := by
  simp only [Idn.smallB, Idn.letters, Bool.and_eq_true, decide_eq_true_eq] at h
  have := h.1.1.1.2
  rw [len_dataV] at this
  exact this
def headM (p V : ByteArray) : ByteArray := { data := #[112, 97, 99, 107, 97, 103, 101, 32] } ++ p ++ { data := #[10, 118, 101, 114, 115, 105, 111, 110, 32] } ++ V ++ { data := #[10] }
def depR (d : Dp) : ByteArray := rngS d.2.1.1 d.2.1.2.1 d.2.1.2.2 d.2.2.1 d.2.2.2.1 d.2.2.2.2
def depT (d : Dp) : ByteArray := { data := #[100, 101, 112, 32] } ++ d.1 ++ { data := #[32] } ++ depR d ++ { data := #[10] }
/-- a manifest's text up to dep k -/
def textK (p V : ByteArray) (ds : List Dp) (k : Nat) : ByteArray := (ds.take k).foldl (fun t d => t ++ depT d) (headM p V)
theorem textK_zero (p V : ByteArray) (ds : List Dp) : textK p V ds 0 = headM p V := rfl
theorem textK_succ (p V : ByteArray) (ds : List Dp) {k : Nat} {d : Dp} (h : ds[k]? = some d) : textK p V ds (k + 1) = textK p V ds k ++ depT d := by
  unfold textK
  rw [List.take_add_one, h, List.foldl_append]
  rfl
theorem rng_size {d : Dp} (h : okR d.2.1 d.2.2 = true) : (depR d).size ≤ 60 := by
  have hm := range_may h
  have h1 := verS_size hm.1
  have h2 := verS_size hm.2
  rw [depR, rngS]
  simp only [ByteArray.size_append]
  have : ({ data := #[46, 46] } : ByteArray).size = 2 := rfl
  omega
theorem may_parts {p : ByteArray} {v : Int × Int × Int} {ds : List Dp} (h : mayM p v ds = true) : ds.length ≤ 20 ∧ Idn.smallB p = true ∧ mayB v.1 v.2.1 v.2.2 = true ∧ ∀ (k : Nat) (d : Dp), ds[k]? = some d → Idn.smallB d.1 = true ∧ okR d.2.1 d.2.2 = true := by
  simp only [mayM, Bool.and_eq_true, decide_eq_true_eq] at h
  refine ⟨h.1, h.2.1, h.2.2.1, fun k d hd => ?_⟩
  have hk : k < ds.length := (List.getElem?_eq_some_iff.1 hd).1
  have hdk : ds[k] = d := (List.getElem?_eq_some_iff.1 hd).2
  have := List.all_eq_true.1 h.2.2.2 k (List.mem_range.2 hk)
  rw [dOk, dif_pos hk, hdk] at this
  simp only [Bool.and_eq_true] at this
  exact ⟨this.1, this.2.2.1⟩
theorem head_size {p V : ByteArray} (hp : p.size ≤ 20) (hV : V.size ≤ 29) : (headM p V).size ≤ 100 := by
  rw [headM]
  simp only [ByteArray.size_append]
  have h1 : ({ data := #[112, 97, 99, 107, 97, 103, 101, 32] } : ByteArray).size = 8 := rfl
  have h2 : ({ data := #[10, 118, 101, 114, 115, 105, 111, 110, 32] } : ByteArray).size = 9 := rfl
  have h3 : ({ data := #[10] } : ByteArray).size = 1 := rfl
  omega
theorem dep_size {d : Dp} (h1 : Idn.smallB d.1 = true) (h2 : okR d.2.1 d.2.2 = true) : (depT d).size ≤ 100 := by
  have a := small_size h1
  have b := rng_size h2
  rw [depT]
  simp only [ByteArray.size_append]
  have h1 : ({ data := #[100, 101, 112, 32] } : ByteArray).size = 4 := rfl
  have h2 : ({ data := #[32] } : ByteArray).size = 1 := rfl
  have h3 : ({ data := #[10] } : ByteArray).size = 1 := rfl
  omega
theorem textK_size {p : ByteArray} {v : Int × Int × Int} {ds : List Dp} (h : mayM p v ds = true) : ∀ k, k ≤ ds.length → (textK p (verS v.1 v.2.1 v.2.2) ds k).size ≤ 100 + 100 * k
  | 0, _ => by
    obtain ⟨-, hp, hv, -⟩ := may_parts h
    rw [textK_zero]
    exact head_size (small_size hp) (verS_size hv)
  | k + 1, hk => by
    have ih := textK_size h k (by omega)
    obtain ⟨-, -, -, hd⟩ := may_parts h
    have e : ds[k]? = some ds[k] := List.getElem?_eq_getElem (by omega)
    obtain ⟨h1, h2⟩ := hd k _ e
    rw [textK_succ _ _ _ e, ByteArray.size_append]
    have := dep_size h1 h2
    omega
def prM (p : ByteArray) (v : Int × Int × Int) (ds : List Dp) : ByteArray := if mayM p v ds then textK p (verS v.1 v.2.1 v.2.2) ds ds.length else { data := #[] }
def prME (p : ByteArray) (v : Int × Int × Int) (ds : List Dp) : Int := if mayM p v ds then 0 else 1
end Go.Proofs.YtlpgkldialmofaaGreatDoor
