/- lex.Join: the texts of tokens joined. -/
import Derived.Test.YtbaoinofpiepmaaDoorSameT
import Derived.Test.YtbaoinofpiepmaaDoorJoinS
namespace Go.Proofs.YtbaoinofpiepmaaDoor
open Go.RowKit
set_option linter.unusedSimpArgs false
set_option linter.unusedVariables false
theorem info_str : ((Tryd.prog).info? 9).map (fun i => (i.zero, i.size, i.bytes)) = some (some (.string { data := #[] }), 1, 16) := by kernel_rfl
theorem owns_cellJ {w : World} {base e g cap n : Nat} {xs : List Value} (h : w.ownsRow base e 1 (.slice (some ⟨g, 0, none⟩) n cap) n xs) {j : Nat} (hj : j < n) : w.cell? ⟨g, j, none⟩ = xs[j]? := by
  obtain ⟨h1, ⟨h2, -⟩ | ⟨g', cap', cur, hv, hg, hh, h3, h4, h5, h6⟩⟩ := h
  · cases h2
  · simp at hv
    obtain ⟨rfl, rfl⟩ := hv
    rw [← h6, List.getElem?_take, if_pos (by omega)]
    simp [World.cell?, hh]
/-- a slice of tokens whose texts read as these -/
def TextAt (w : World) (v : Value) (xs : List ByteArray) : Prop :=
  ∃ p cap, v = .slice p xs.length cap ∧ (0 < xs.length → ∃ b o, p = some ⟨b, o, none⟩ ∧ b < w.heap.size ∧ ∀ i (h : i < xs.length),
    (∃ x : Int, w.cell? ⟨b, o + i * 3, none⟩ = some (.int .i64 x)) ∧ (∃ y : Int, w.cell? ⟨b, o + i * 3 + 1, none⟩ = some (.int .i64 y)) ∧ w.cell? ⟨b, o + i * 3 + 2, none⟩ = some (.string xs[i]))
theorem TextAt.under {w w' : World} {v : Value} {xs : List ByteArray} (h : TextAt w v xs) (hb : Below w.heap.size w w') : TextAt w' v xs := by
  obtain ⟨p, cap, rfl, h⟩ := h
  refine ⟨p, cap, rfl, fun h0 => ?_⟩
  obtain ⟨b, o, rfl, hl, g⟩ := h h0
  have := hb.size
  refine ⟨b, o, rfl, by omega, fun i hi => ?_⟩
  rw [hb.cell (p := ⟨b, _, none⟩) hl, hb.cell (p := ⟨b, _, none⟩) hl, hb.cell (p := ⟨b, _, none⟩) hl]
  exact g i hi
/-- what the loop holds -/
structure JoinRel (w wr : World) (xs : List ByteArray) (sv : Value) (k : Nat) : Prop where
  below : Below w.heap.size w wr
  row : wr.ownsRow w.heap.size 9 1 sv k ((xs.take k).map Value.string)
def joinB (xs : List ByteArray) : List UInt8 := Lib.join (xs.map (·.data.toList)) [32]
set_option maxRecDepth 100000 in
set_option maxHeartbeats 4000000 in
theorem lexJoin_c (xs : List ByteArray) (v : Value) (w : World) (h : TextAt w v xs) (hl : xs.length ≤ 500) (hj : (joinB xs).length ≤ 140737488355328) :
    Calls Tryd.prog 16 #[v] w fun e w' => e = .returned (.string ⟨(joinB xs).toArray⟩) ∧ Below w.heap.size w w' := by
  obtain ⟨i0, hi, hz0, hz1, hz2⟩ := info_parts info_str
  obtain ⟨p, cap, rfl, h⟩ := h
  have H := Lib.hid h
  have HJ := Lib.hid hj
  clear h hj
  go_enter Tryd.func16, Tryd.ntmps16
  go_wp2_with fail
  go_loopw [3, 8] (fun sv i wr => ∃ k : Nat, k ≤ xs.length ∧ i = .int .i64 k ∧ JoinRel w wr xs sv k) (fun _ i _ => xs.length - (intOf i).toNat)
  case atStart => exact ⟨0, Nat.zero_le _, rfl, Below.refl _ _, World.ownsRow_nil _ _ _ _⟩
  case round =>
    obtain ⟨k, hk, rfl, hrel⟩ := hrel
    have HRL := Lib.hid hrel
    have hacc := hrel.below
    have hsz := hacc.size
    clear hrel
    by_cases hlt : k < xs.length
    · have hltI : (k : Int) < (xs.length : Int) := by omega
      obtain ⟨b, o, rfl, hbl, g⟩ := H.out (by omega)
      obtain ⟨⟨x, d0⟩, ⟨y, d1⟩, d2⟩ := g k hlt
      rw [← hacc.cell (p := ⟨b, _, none⟩) hbl] at d0 d1 d2
      have HA := Lib.hid hacc
      clear g hacc
      have hx := Lib.hid (show xs[k]? = some xs[k] from List.getElem?_eq_getElem hlt)
      go_wp2_with (at_builtin; refine wpList_append_own _ rfl _ _ 59 rfl w.heap.size 9 i0 (.string { data := #[] }) 1 16 Tryd.underlying59 hi hz0 hz1 hz2 rfl (by decide) _ k _ rfl (owns_under HRL.out.row (((Below.refl _ _).alloc (Nat.le_refl _) (.cells #[.int .i64 x, .int .i64 y, .string xs[k]] 43)).alloc (by simp) _)) _ 1 1 [.string xs[k]] rfl ?qc1 ?qc2 ?qc3 ?qc4 ?qc5 ?qc6 ?_)
      case qc1 => simp
      case qc2 =>
        intro j u hj
        have hj0 : j = 0 := by cases j with | zero => rfl | succ j => simp at hj
        subst hj0
        simp at hj
        subst hj
        rw [addN]
        simp
      case qc3 => intro u hu; simp at hu; subst hu; rfl
      case qc4 => unfold maxLen; omega
      case qc5 => omega
      case qc6 => simp; omega
      intro v' w2 hown hgrow hnil
      have hb2 := ((Below.refl wr.heap.size wr).alloc (Nat.le_refl _) (.cells #[.int .i64 x, .int .i64 y, .string xs[k]] 43)).alloc (by simp) (.cells #[.string xs[k]] 9)
      have hbel : Below w.heap.size w w2 := (HA.out.trans (hb2.mono hsz)).grown hgrow (by simp; omega) (owns_base HRL.out.row)
      have hpush : JoinRel w w2 xs v' (k + 1) := ⟨hbel, by
        have e : (xs.take (k + 1)).map Value.string = (xs.take k).map Value.string ++ [.string xs[k]] := by
          rw [List.take_add_one, hx.out, List.map_append]; rfl
        rw [e]; simpa only [List.map_take] using hown⟩
      have HP := Lib.hid hpush
      clear hown hgrow hnil hb2 hpush hbel
      go_wp2_with fail
      exact ⟨⟨k + 1, by omega, by go_num, HP.out⟩, by simp [intOf]; omega⟩
    · have hke : k = xs.length := by omega
      subst hke
      have hkx : ¬ (xs.length : Int) < (xs.length : Int) := by omega
      have hrow := HRL.out.row
      rw [List.take_length] at hrow
      have HROW := Lib.hid hrow
      obtain ⟨-, ⟨rfl, h0⟩ | ⟨g, cap2, cur, rfl, hg, hh, hcap, -⟩⟩ := hrow
      · have hr0 : xs = [] := List.eq_nil_of_length_eq_zero h0
        have HR0 := Lib.hid hr0
        clear hr0 HROW
        rw [h0]
        go_wp2_with fail
        refine (join0_c _ _ _ _).mono ?_
        rintro e w9 ⟨rfl, rfl⟩
        go_wp2_with fail
        go_ret
        exact ⟨by rw [HR0.out]; rfl, hacc⟩
      · have hgl := (owns_lt HROW.out (show (Value.slice (some ⟨g, 0, none⟩) xs.length cap2).ownBlock = some g from rfl)).2
        go_wp2_with fail
        refine (join_c g 0 cap2 xs { data := #[32] } wr (fun j x hx => by
          have hjl : j < xs.length := (List.getElem?_eq_some_iff.1 hx).1
          rw [Nat.zero_add, owns_cellJ HROW.out hjl, List.getElem?_map, hx]
          rfl) hgl (by omega) (by omega) HJ.out).mono ?_
        rintro e w9 ⟨rfl, hb9⟩
        go_wp2_with fail
        go_ret
        exact ⟨rfl, hacc.trans (hb9.mono hsz)⟩
end Go.Proofs.YtbaoinofpiepmaaDoor
