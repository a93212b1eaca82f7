/- The contract of merlonref04.row: the texts of types, with names ahead, joined; the premise: merlonref04.Print answers each. -/
import Derived.Test.YtalpmjmifcofeaaDoorDigits
namespace Go.Proofs.YtalpmjmifcofeaaDoor
open Go.RowKit
set_option linter.unusedSimpArgs false
set_option linter.unusedVariables false
/-- the contract of merlonref04.Print at one type -/
def RTextAt (t : Ty) : Prop := ∀ (cs : Array Value) (B : Nat) (w : World), TyC w B t cs → B ≤ w.heap.size →
    Calls Tryd.prog 15 #[.agg cs] w fun e w' => e = .returned (.string (ba (tx t))) ∧ Below w.heap.size w w'
theorem join_snoc (l : List (List UInt8)) (x : List UInt8) (h : l ≠ []) : Lib.join (l ++ [x]) sepC = Lib.join l sepC ++ sepC ++ x := by
  cases l with
  | nil => exact absurd rfl h
  | cons y l =>
    rw [List.cons_append, Lib.join_cons, Lib.join_cons]
    simp [Lib.joinTail, List.append_assoc]
theorem join_step {R : List (List UInt8)} {k : Nat} (hk : k < R.length) (h0 : 0 < k) : Lib.join (R.take (k + 1)) sepC = Lib.join (R.take k) sepC ++ sepC ++ R[k] := by
  have h1 : (R.take k).length = k := by rw [List.length_take]; omega
  have h2 : R.take k ≠ [] := fun e => by rw [e] at h1; simp at h1; omega
  rw [List.take_succ_eq_append_getElem hk, join_snoc _ _ h2]
theorem join_first {R : List (List UInt8)} {k : Nat} (hk : k < R.length) (h0 : k = 0) : Lib.join (R.take (k + 1)) sepC = Lib.join (R.take k) sepC ++ R[k] := by
  subst h0
  rw [List.take_succ_eq_append_getElem hk]
  simp [Lib.join_one, Lib.join_nil]
theorem join_len {R : List (List UInt8)} (hs : ∀ x ∈ R, x.length ≤ 100022) (hl : R.length ≤ 20) (k : Nat) : (Lib.join (R.take k) sepC).length ≤ 2000480 := by
  have h1 := join_le (R.take k)
  have h2 := join_small (R.take k) fun x hx => hs x (List.mem_of_mem_take hx)
  have h3 : (R.take k).length * 100024 ≤ 20 * 100024 := Nat.mul_le_mul_right _ (by rw [List.length_take]; omega)
  omega
theorem el_z {ns : List ByteArray} {ts : List Ty} {R : List (List UInt8)} {k : Nat} (hR : rowN ns (ts.map tx) = R) (hz : ns.length = 0) (hk : k < ts.length) (hr : k < R.length) : R[k] = tx ts[k] := by
  subst hR
  have e := rowN_none (l := ts.map tx) hz
  simp [e]
theorem el_n {ns : List ByteArray} {ts : List Ty} {R : List (List UInt8)} {k : Nat} (hR : rowN ns (ts.map tx) = R) (hz : ¬ ns.length = 0) (hn : k < ns.length) (hk : k < ts.length) (hr : k < R.length) : R[k] = bl ns[k] ++ [58, 32] ++ tx ts[k] := by
  subst hR
  rw [rowN_some hz hn (by simpa using hk) hr, List.getElem_map]
theorem add_z (J T X : List UInt8) (h : X = J ++ T) : Value.string (ba J ++ ba T) = .string (ba X) := by rw [h, ba_app]
theorem add_n (J T X : List UInt8) (n : ByteArray) (h : X = J ++ (bl n ++ [58, 32] ++ T)) : Value.string (ba J ++ n ++ { data := #[58, 32] } ++ ba T) = .string (ba X) := by
  apply congrArg Value.string
  apply bl_inj
  rw [bl_ba, h]
  simp only [bl_add, bl_ba]
  show (J ++ bl n ++ [58, 32] ++ T : List UInt8) = _
  simp
theorem add_cz (J T X : List UInt8) (h : X = J ++ sepC ++ T) : Value.string (ba J ++ { data := #[44, 32] } ++ ba T) = .string (ba X) := by
  apply congrArg Value.string
  apply bl_inj
  rw [bl_ba, h]
  simp only [bl_add, bl_ba]
  rfl
theorem add_cn (J T X : List UInt8) (n : ByteArray) (h : X = J ++ sepC ++ (bl n ++ [58, 32] ++ T)) : Value.string (ba J ++ { data := #[44, 32] } ++ n ++ { data := #[58, 32] } ++ ba T) = .string (ba X) := by
  apply congrArg Value.string
  apply bl_inj
  rw [bl_ba, h]
  simp only [bl_add, bl_ba]
  show (J ++ sepC ++ bl n ++ [58, 32] ++ T : List UInt8) = _
  simp
set_option maxRecDepth 100000 in
set_option maxHeartbeats 4000000 in
theorem row_c (ts : List Ty) (ns : List ByteArray) (sa na : Option Addr) (N sc nc B : Nat) (f : Nat → Array Value) (w : World) (hn : StrsAt w B na ns) (hs : RowsAt w B sa ts.length f) (hsub : ∀ i (h : i < ts.length), TyC w B ts[i] (f i)) (hB : B ≤ w.heap.size)
    (hN : ts.length ≤ N) (hl : ns.length = 0 ∨ ns.length = ts.length) (h20 : ts.length ≤ 20) (hv : ∀ t ∈ ts, V t ∧ manyT t ≤ 500) (hnl : ∀ n ∈ ns, n.size ≤ 20) (IH : ∀ t ∈ ts, RTextAt t) :
    Calls Tryd.prog 25 #[.slice sa N sc, .slice na ns.length nc, .int .i64 ts.length] w fun e w' => e = .returned (.string (ba (Lib.join (rowN ns (ts.map tx)) sepC))) ∧ Below w.heap.size w w' := by
  obtain ⟨R, hR⟩ : ∃ R, rowN ns (ts.map tx) = R := ⟨_, rfl⟩
  have hRl : R.length = ts.length := by rw [← hR, rowN_len _ _ (by simpa using hl), List.length_map]
  have hRs : ∀ x ∈ R, x.length ≤ 100022 := by rw [← hR]; exact row_small hl h20 hv hnl
  have HR := Lib.hid hR
  have HRS := Lib.hid hRs
  have HN := Lib.hid hn
  have HS := Lib.hid hs
  have HU := Lib.hid hsub
  have HV := Lib.hid hv
  have HNL := Lib.hid hnl
  have HI := Lib.hid IH
  rw [hR]
  clear hR hRs hn hs hsub hv hnl IH
  go_enter Tryd.func25, Tryd.ntmps25
  go_wp2_with fail
  go_loopw [7, 8] (fun v i wr => ∃ k : Nat, k ≤ ts.length ∧ i = .int .i64 k ∧ Below w.heap.size w wr ∧ v = .string (ba (Lib.join (R.take k) sepC))) (fun _ i _ => ts.length - (intOf i).toNat)
  case atStart => exact ⟨0, Nat.zero_le _, rfl, Below.refl _ _, rfl⟩
  case round =>
    obtain ⟨k, hk, rfl, hacc, rfl⟩ := hrel
    have hsz := hacc.size
    by_cases hlt : k < ts.length
    · have hltI : (k : Int) < (ts.length : Int) := by omega
      have hlN : (k : Int) < (N : Int) := by omega
      have hT1 := (HU.out k hlt).under (hacc.mono hB)
      obtain ⟨b2, o2, na2, nc2, sa2, sc2, rfl, hbb2, hfk2, d0, d1, d2, d3, d4, d5, d6⟩ := TyC.elem (HS.out.keep fun p hp => hacc.cell (p := p) (by omega)) hlt hT1
      rw [hfk2] at hT1
      have hxs := HV.out _ (List.getElem_mem hlt)
      have htl : (tx ts[k]).length ≤ 100000 := by have := tx_len hxs.1; have := hxs.2; omega
      have hbs : (ba (tx ts[k])).size ≤ 100000 := by rw [ba_size]; exact htl
      have hjs : (ba (Lib.join (R.take k) sepC)).size ≤ 2000480 := by rw [ba_size]; exact join_len HRS.out (by omega) k
      have HP := Lib.hid (HI.out _ (List.getElem_mem hlt) _ B wr hT1 (by omega))
      have hkR : k < R.length := by omega
      obtain ⟨J, hJ⟩ : ∃ J, Lib.join (R.take k) sepC = J := ⟨_, rfl⟩
      rw [hJ] at hjs ⊢
      have HJ := Lib.hid hJ
      clear hfk2 hxs htl hT1 hJ
      by_cases hz : ns.length = 0
      · have hnz : ¬ (0 : Int) < (ns.length : Int) := by omega
        have HZ := Lib.hid hz
        clear hz
        by_cases h0 : k = 0
        · have hk0 : ¬ (0 : Int) < (k : Int) := by omega
          have H0 := Lib.hid h0
          clear h0
          go_wp2_with fail
          refine HP.out.mono ?_
          rintro e w1 ⟨rfl, hb1⟩
          go_wp2
          exact ⟨⟨k + 1, by omega, by go_num, hacc.trans (hb1.mono hsz), add_z _ _ _ (by rw [← HJ.out, join_first hkR H0.out, el_z HR.out HZ.out hlt hkR])⟩, by simp [intOf]; omega⟩
        · have hk0 : (0 : Int) < (k : Int) := by omega
          go_wp2_with fail
          refine HP.out.mono ?_
          rintro e w1 ⟨rfl, hb1⟩
          go_wp2
          exact ⟨⟨k + 1, by omega, by go_num, hacc.trans (hb1.mono hsz), add_cz _ _ _ (by rw [← HJ.out, join_step hkR (by omega), el_z HR.out HZ.out hlt hkR])⟩, by simp [intOf]; omega⟩
      · have hnk : k < ns.length := by omega
        have hns := HNL.out _ (List.getElem_mem hnk)
        have hnkI : (k : Int) < (ns.length : Int) := by omega
        have hn0 : (0 : Int) < (ns.length : Int) := by omega
        obtain ⟨bn, on, rfl, hbn, hcn⟩ : ∃ b o, na = some ⟨b, o, none⟩ ∧ b < B ∧ ∀ i (h : i < ns.length), w.cell? ⟨b, o + i, none⟩ = some (.string ns[i]) := by
          rcases HN.out with h | h
          · rw [h] at hnk; simp at hnk
          · exact h
        have hck : wr.cell? ⟨bn, on + k, none⟩ = some (.string ns[k]) := (hacc.cell (p := ⟨bn, on + k, none⟩) (by show bn < _; omega)).trans (hcn k hnk)
        clear hcn
        by_cases h0 : k = 0
        · have hk0 : ¬ (0 : Int) < (k : Int) := by omega
          have H0 := Lib.hid h0
          clear h0
          go_wp2_with fail
          refine HP.out.mono ?_
          rintro e w1 ⟨rfl, hb1⟩
          go_wp2
          exact ⟨⟨k + 1, by omega, by go_num, hacc.trans (hb1.mono hsz), add_n _ _ _ _ (by rw [← HJ.out, join_first hkR H0.out, el_n HR.out hz hnk hlt hkR])⟩, by simp [intOf]; omega⟩
        · have hk0 : (0 : Int) < (k : Int) := by omega
          go_wp2_with fail
          refine HP.out.mono ?_
          rintro e w1 ⟨rfl, hb1⟩
          go_wp2
          exact ⟨⟨k + 1, by omega, by go_num, hacc.trans (hb1.mono hsz), add_cn _ _ _ _ (by rw [← HJ.out, join_step hkR (by omega), el_n HR.out hz hnk hlt hkR])⟩, by simp [intOf]; omega⟩
    · have hke : k = ts.length := by omega
      subst hke
      have hkx : ¬ (ts.length : Int) < (ts.length : Int) := by omega
      go_wp2
      go_ret
      exact ⟨by rw [show R.take ts.length = R from by rw [← hRl, List.take_length]]; rfl, hacc⟩
end Go.Proofs.YtalpmjmifcofeaaDoor
