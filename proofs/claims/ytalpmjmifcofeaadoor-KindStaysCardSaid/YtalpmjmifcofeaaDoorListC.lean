/- The contract of kind.list: the texts of types, with names ahead, joined; the premise: kind.text answers each (told again in Text.tpl). -/
import Derived.Test.YtalpmjmifcofeaaDoorShelfD
import Derived.Test.YtalpmjmifcofeaaDoorTextT
import Derived.Test.YtalpmjmifcofeaaDoorOwns
import Derived.Deep.AppendLies
import Derived.Deep.DeepCutAuto
import Derived.Deep.Cut
namespace Go.Proofs.YtalpmjmifcofeaaDoor
open Go.RowKit
set_option linter.unusedSimpArgs false
set_option linter.unusedVariables false
def ba (l : List UInt8) : ByteArray := ⟨l.toArray⟩
theorem ba_data (l : List UInt8) : (ba l).data.toList = l := rfl
theorem ba_size (l : List UInt8) : (ba l).size = l.length := by show l.toArray.size = _; rw [List.size_toArray]
theorem bl_ba (l : List UInt8) : bl (ba l) = l := rfl
theorem ba_bl (s : ByteArray) : ba (bl s) = s := bl_inj rfl
theorem bl_add (s t : ByteArray) : bl (s ++ t) = bl s ++ bl t := by simp only [bl, ByteArray.data_append, Array.toList_append]
theorem bl_len (s : ByteArray) : (bl s).length = s.size := by show s.data.toList.length = s.data.size; rw [Array.length_toList]
/-- the contract of kind.text at one type -/
def TextAt (t : Ty) : Prop := ∀ (cs : Array Value) (B : Nat) (w : World), TyC w B t cs → B ≤ w.heap.size → TabW w →
    Calls Tryd.prog 22 #[.agg cs] w fun e w' => e = .returned (.string (ba (tx t))) ∧ Below w.heap.size w w'
theorem rowN_len (ns : List ByteArray) (l : List (List UInt8)) (h : ns.length = 0 ∨ ns.length = l.length) : (rowN ns l).length = l.length := by
  rw [rowN]; split
  · rfl
  · rw [List.length_zipWith]; omega
theorem rowN_none {ns : List ByteArray} {l : List (List UInt8)} (h : ns.length = 0) : rowN ns l = l := by rw [rowN, if_pos h]
theorem rowN_some {ns : List ByteArray} {l : List (List UInt8)} (h : ¬ ns.length = 0) {k : Nat} (hk : k < ns.length) (hk' : k < l.length) (hr : k < (rowN ns l).length) : (rowN ns l)[k] = bl ns[k] ++ [58, 32] ++ l[k] := by
  simp [rowN, h]
theorem row_small {ns : List ByteArray} {ts : List Ty} (hl : ns.length = 0 ∨ ns.length = ts.length) (h20 : ts.length ≤ 20) (hv : ∀ t ∈ ts, V t ∧ manyT t ≤ 500) (hn : ∀ n ∈ ns, n.size ≤ 20) :
    ∀ x ∈ rowN ns (ts.map tx), x.length ≤ 100022 := by
  have ht : ∀ t ∈ ts, (tx t).length ≤ 100000 := fun t h => by have := tx_len (hv t h).1; have := (hv t h).2; omega
  intro x hx
  obtain ⟨k, hk, rfl⟩ := List.getElem_of_mem hx
  have hlen := rowN_len ns (ts.map tx) (by simpa using hl)
  rw [List.length_map] at hlen
  by_cases h : ns.length = 0
  · have e := rowN_none (l := ts.map tx) h
    have h3 : (rowN ns (ts.map tx))[k] = tx (ts[k]'(by omega)) := by simp [e]
    rw [h3]
    have := ht _ (List.getElem_mem (show k < ts.length by omega)); omega
  · rw [rowN_some h (by omega) (by simp; omega) hk, List.getElem_map]
    have := ht _ (List.getElem_mem (show k < ts.length by omega))
    have h5 := hn _ (List.getElem_mem (show k < ns.length by omega))
    have h6 := bl_len (ns[k]'(by omega))
    simp only [List.length_append, List.length_cons, List.length_nil]; omega
theorem join_small : ∀ (l : List (List UInt8)), (∀ x ∈ l, x.length ≤ 100022) → (Lib.joinTail sepC l).length ≤ l.length * 100024
  | [], _ => by simp [Lib.joinTail]
  | x :: l, h => by
    have h1 := join_small l fun y hy => h y (by simp [hy])
    have h2 := h x (by simp)
    rw [joinTail_cons]
    simp only [List.length_append, List.length_cons, sepC, List.length_nil]
    have e : Lib.joinTail [44, 32] l = Lib.joinTail sepC l := rfl
    rw [e]; omega
/-- what the loop of kind.list holds -/
structure ListRel (w wr : World) (R : List (List UInt8)) (sv : Value) (k : Nat) : Prop where
  below : Below w.heap.size w wr
  row : wr.ownsRow w.heap.size 9 1 sv k ((R.map fun l => Value.string (ba l)).take k)
theorem ListRel.push {w wr w1 w2 : World} {R : List (List UInt8)} {sv v' : Value} {k : Nat} (h : ListRel w wr R sv k) (hk : k < R.length) {x : Value} (hx : x = .string (ba R[k])) (hb : Below wr.heap.size wr w1)
    (hown : w2.ownsRow w.heap.size 9 1 v' (k + 1) (((R.map fun l => Value.string (ba l)).take k) ++ [x])) (hg : w1.grownBy w2 sv.ownBlock) : ListRel w w2 R v' (k + 1) := by
  have hacc := h.below
  refine ⟨(hacc.trans (hb.mono hacc.size)).grown hg (by have := hacc.size; have := hb.size; omega) (owns_base h.row), ?_⟩
  rw [hx] at hown
  rw [List.take_succ_eq_append_getElem (by simpa using hk), List.getElem_map]
  exact hown
theorem list_x1 {ns : List ByteArray} {ts : List Ty} {R : List (List UInt8)} {k : Nat} (hR : rowN ns (ts.map tx) = R) (hz : ns.length = 0) (hk : k < ts.length) (hr : k < R.length) : Value.string (ba (tx ts[k])) = .string (ba R[k]) := by
  have e : R[k] = tx ts[k] := by
    subst hR
    have e := rowN_none (l := ts.map tx) hz
    simp [e]
  rw [e]
theorem list_x2 {ns : List ByteArray} {ts : List Ty} {R : List (List UInt8)} {k : Nat} (hR : rowN ns (ts.map tx) = R) (hz : ¬ ns.length = 0) (hn : k < ns.length) (hk : k < ts.length) (hr : k < R.length) :
    Value.string (ns[k] ++ { data := #[58, 32] } ++ ba (tx ts[k])) = .string (ba R[k]) := by
  have e : R[k] = bl ns[k] ++ [58, 32] ++ tx ts[k] := by
    subst hR
    rw [rowN_some hz hn (by simpa using hk) hr, List.getElem_map]
  rw [e]
  congr 1
set_option maxRecDepth 100000 in
set_option maxHeartbeats 4000000 in
theorem list_c (ts : List Ty) (ns : List ByteArray) (sa na : Option Addr) (sc nc B : Nat) (f : Nat → Array Value) (w : World) (hn : StrsAt w B na ns) (hs : RowsAt w B sa ts.length f) (hsub : ∀ i (h : i < ts.length), TyC w B ts[i] (f i)) (hB : B ≤ w.heap.size) (htab : TabW w)
    (hl : ns.length = 0 ∨ ns.length = ts.length) (h20 : ts.length ≤ 20) (hv : ∀ t ∈ ts, V t ∧ manyT t ≤ 500) (hnl : ∀ n ∈ ns, n.size ≤ 20) (IH : ∀ t ∈ ts, TextAt t) :
    Calls Tryd.prog 29 #[.slice sa ts.length sc, .slice na ns.length nc] w fun e w' => e = .returned (.string (ba (Lib.join (rowN ns (ts.map tx)) sepC))) ∧ Below w.heap.size w w' := by
  obtain ⟨R, hR⟩ : ∃ R, rowN ns (ts.map tx) = R := ⟨_, rfl⟩
  have hRl : R.length = ts.length := by rw [← hR, rowN_len _ _ (by simpa using hl), List.length_map]
  have hRs : ∀ x ∈ R, x.length ≤ 100022 := by rw [← hR]; exact row_small hl h20 hv hnl
  have HR := Lib.hid hR
  have HRS := Lib.hid hRs
  have HN := Lib.hid hn
  have HS := Lib.hid hs
  have HU := Lib.hid hsub
  have HT := Lib.hid htab
  have HV := Lib.hid hv
  have HNL := Lib.hid hnl
  have HI := Lib.hid IH
  rw [hR]
  clear hR hRs hn hs hsub htab hv hnl IH
  obtain ⟨i0, hi, hz0, hz1, hz2⟩ := info_parts info_str
  go_enter Tryd.func29, Tryd.ntmps29
  go_wp2_with fail
  go_loopw [5, 11] (fun sv i wr => ∃ k : Nat, k ≤ ts.length ∧ i = .int .i64 k ∧ ListRel w wr R sv k) (fun _ i _ => ts.length - (intOf i).toNat)
  case atStart => exact ⟨0, Nat.zero_le _, rfl, Below.refl _ _, World.ownsRow_nil _ _ _ _⟩
  case round =>
    obtain ⟨k, hk, rfl, hrel⟩ := hrel
    have HRL := Lib.hid hrel
    have hacc := hrel.below
    have hsz := hacc.size
    clear hrel
    by_cases hlt : k < ts.length
    · have hltI : (k : Int) < (ts.length : Int) := by omega
      have hT1 := (HU.out k hlt).under (hacc.mono hB)
      obtain ⟨b2, o2, na2, nc2, sa2, sc2, rfl, hbb2, hfk2, d0, d1, d2, d3, d4, d5, d6⟩ := TyC.elem (HS.out.keep fun p hp => hacc.cell (p := p) (by omega)) hlt hT1
      rw [hfk2] at hT1
      have HT1 := Lib.hid hT1
      clear hT1 hfk2
      go_wp2_with fail
      refine (HI.out _ (List.getElem_mem hlt) _ B _ (HT1.out.alloc (by omega) _) (by simp; omega) (HT.out.below (hacc.alloc (by omega) _))).mono ?_
      rintro e w1 ⟨rfl, hb1⟩
      have hbw : Below wr.heap.size wr w1 := ((Below.refl _ wr).alloc (Nat.le_refl _) _).trans (hb1.mono (by simp))
      have HBW := Lib.hid hbw
      have hs1 := hbw.size
      clear hb1 hbw d0 d1 d2 d3 d4 d5 d6
      have hxs := HV.out _ (List.getElem_mem hlt)
      have htl : (tx ts[k]).length ≤ 100000 := by have := tx_len hxs.1; have := hxs.2; omega
      have hbs : (ba (tx ts[k])).size ≤ 100000 := by rw [ba_size]; exact htl
      have HX := Lib.hid htl
      clear hxs htl
      by_cases hz : ns.length = 0
      · have hnz : ¬ (0 : Int) < (ns.length : Int) := by omega
        have HZ := Lib.hid hz
        clear hz
        go_wp2_with (at_builtin; refine wpList_append_own _ rfl _ _ 22 rfl w.heap.size 9 i0 (.string { data := #[] }) 1 16 Tryd.underlying22 hi hz0 hz1 hz2 rfl (by decide) _ k _ rfl (owns_under (owns_under HRL.out.row HBW.out) ((Below.refl _ _).alloc (Nat.le_refl _) _)) _ 1 1 [.string (ba (tx ts[k]))] rfl ?qc1 ?qc2 ?qc3 ?qc4 ?qc5 ?qc6 ?_)
        case qc1 => simp
        case qc2 =>
          intro j u hj
          have hj0 : j = 0 := by cases j with | zero => rfl | succ j => simp at hj
          subst hj0
          simp at hj
          subst hj
          rw [addN]
          exact (Blk.new w1 _ _).cell 0
        case qc3 => intro u hu; simp at hu; subst hu; rfl
        case qc4 => unfold maxLen; omega
        case qc5 => omega
        case qc6 => simp; omega
        intro v' w2 hown hgrow hnil
        have hb2 := HBW.out.alloc hs1 (.cells #[.string (ba (tx ts[k]))] 9)
        have hpush := HRL.out.push (by omega) (list_x1 HR.out HZ.out hlt (by omega)) hb2 hown hgrow
        have HP := Lib.hid hpush
        clear hown hgrow hnil hb2 hpush
        go_wp2_with fail
        exact ⟨⟨k + 1, by omega, by go_num, HP.out⟩, by simp [intOf]; omega⟩
      · have hnk : k < ns.length := by omega
        have hns := HNL.out _ (List.getElem_mem hnk)
        have hnkI : (k : Int) < (ns.length : Int) := by omega
        have hn0 : (0 : Int) < (ns.length : Int) := by omega
        obtain ⟨bn, on, rfl, hbn, hcn⟩ : ∃ b o, na = some ⟨b, o, none⟩ ∧ b < B ∧ ∀ i (h : i < ns.length), w.cell? ⟨b, o + i, none⟩ = some (.string ns[i]) := by
          rcases HN.out with h | h
          · rw [h] at hnk; simp at hnk
          · exact h
        have hck : w1.cell? ⟨bn, on + k, none⟩ = some (.string ns[k]) := ((hacc.trans (HBW.out.mono hsz)).cell (p := ⟨bn, on + k, none⟩) (by show bn < _; omega)).trans (hcn k hnk)
        clear hcn
        go_wp2_with (at_builtin; refine wpList_append_own _ rfl _ _ 22 rfl w.heap.size 9 i0 (.string { data := #[] }) 1 16 Tryd.underlying22 hi hz0 hz1 hz2 rfl (by decide) _ k _ rfl (owns_under (owns_under HRL.out.row HBW.out) ((Below.refl _ _).alloc (Nat.le_refl _) _)) _ 1 1 [.string (ns[k] ++ { data := #[58, 32] } ++ ba (tx ts[k]))] rfl ?qc1 ?qc2 ?qc3 ?qc4 ?qc5 ?qc6 ?_)
        case qc1 => simp
        case qc2 =>
          intro j u hj
          have hj0 : j = 0 := by cases j with | zero => rfl | succ j => simp at hj
          subst hj0
          simp at hj
          subst hj
          rw [addN]
          exact (Blk.new w1 _ _).cell 0
        case qc3 => intro u hu; simp at hu; subst hu; rfl
        case qc4 => unfold maxLen; omega
        case qc5 => omega
        case qc6 => simp; omega
        intro v' w2 hown hgrow hnil
        have hb2 := HBW.out.alloc hs1 (.cells #[.string (ns[k] ++ { data := #[58, 32] } ++ ba (tx ts[k]))] 9)
        have hpush := HRL.out.push (by omega) (list_x2 HR.out hz hnk hlt (by omega)) hb2 hown hgrow
        have HP := Lib.hid hpush
        clear hown hgrow hnil hb2 hpush
        go_wp2_with fail
        exact ⟨⟨k + 1, by omega, by go_num, HP.out⟩, by simp [intOf]; omega⟩
    · have hke : k = ts.length := by omega
      subst hke
      have hkx : ¬ (ts.length : Int) < (ts.length : Int) := by omega
      have hrow := HRL.out.row
      rw [show (R.map fun l => Value.string (ba l)).take ts.length = R.map fun l => Value.string (ba l) from by rw [← hRl, ← List.length_map (fun l => Value.string (ba l)), List.take_length]] at hrow
      have HROW := Lib.hid hrow
      obtain ⟨-, ⟨rfl, h0⟩ | ⟨g, cap, cur, rfl, hg, hh, hcap, -⟩⟩ := hrow
      · have hr0 : R = [] := List.eq_nil_of_length_eq_zero (by omega)
        rw [h0]
        go_wp2_with fail
        refine (join0_c _ _ _ _).mono ?_
        rintro e w9 ⟨rfl, rfl⟩
        go_wp2_with fail
        go_ret
        exact ⟨by rw [hr0]; rfl, hacc⟩
      · have hgl := (owns_lt HROW.out (show (Value.slice (some ⟨g, 0, none⟩) ts.length cap).ownBlock = some g from rfl)).2
        go_wp2_with fail
        have hlm : (R.map ba).length = ts.length := by rw [List.length_map, hRl]
        have hmm : (R.map ba).map (·.data.toList) = R := by rw [List.map_map]; exact List.map_id' R
        have hj := join_c g 0 cap (R.map ba) { data := #[44, 32] } wr (fun j x hx => by
          rw [List.getElem?_map, Option.map_eq_some_iff] at hx
          obtain ⟨y, hy, rfl⟩ := hx
          have hjl : j < R.length := (List.getElem?_eq_some_iff.1 hy).1
          rw [Nat.zero_add, owns_cell HROW.out (by omega), List.getElem?_map, hy]
          rfl) hgl (by omega) (by omega) (by
          rw [hmm]
          have h1 := join_le R
          have h2 := join_small R HRS.out
          have h3 : R.length * 100024 ≤ 20 * 100024 := Nat.mul_le_mul_right _ (by omega)
          exact Nat.le_trans h1 (by omega))
        rw [hmm, hlm] at hj
        refine hj.mono ?_
        rintro e w9 ⟨rfl, hb9⟩
        go_wp2_with fail
        go_ret
        exact ⟨rfl, hacc.trans (hb9.mono hsz)⟩
end Go.Proofs.YtalpmjmifcofeaaDoor
