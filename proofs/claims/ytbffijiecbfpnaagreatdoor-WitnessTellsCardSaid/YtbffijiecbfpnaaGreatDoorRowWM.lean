/- The statement WitnessTells: for any rows of interfaces the law returns true and leaves its arguments as they were; the premise: the listed tables are as the program lays them (the card ties this). -/
import Derived.Test.YtbffijiecbfpnaaGreatDoorBrkM
import Derived.Test.YtbffijiecbfpnaaGreatDoorChgC
import Derived.Test.YtbffijiecbfpnaaGreatDoorRMay12
import Derived.Test.YtbffijiecbfpnaaGreatDoorRefSame
import Derived.Laws.StructEq
import Derived.Deep.QuietTactic
import Derived.Deep.Draws
import Derived.Shelf.Strings.Builder1
import Derived.Shelf.Strings.Builder2
import Derived.Shelf.Small.Bits
import Derived.Shelf.Strconv.Itoa0
import Derived.Shelf.Strconv.Itoa1
import Derived.Shelf.LaysM
import Derived.Shelf.Strconv.Itoa2
import Derived.Shelf.Strconv.Itoa3
import Derived.Shelf.Sort.Plain
import Derived.Shelf.Slices.Turned
import Derived.Shelf.Slices.Equal
import Derived.Ground.Names2Prog
import Derived.Shelf.Slices.Clone
import Derived.Shelf.Slices.CompactS
import Derived.Shelf.Slices.Cells
import Derived.Shelf.Slices.In.SortNone
import Derived.Ground.SlgnProg
import Derived.Shelf.SlicesE.Clone
import Derived.Test.YtbffijiecbfpnaaGreatDoorProg
import Derived.Test.YtbffijiecbfpnaaGreatDoorFewC
import Derived.Test.YtbffijiecbfpnaaGreatDoorOpen
import Derived.Test.YtbffijiecbfpnaaGreatDoorIfc
import Derived.Test.YtbffijiecbfpnaaGreatDoorRows
import Derived.Test.YtbffijiecbfpnaaGreatDoorCards
import Derived.Test.YtbffijiecbfpnaaGreatDoorTie
import Derived.ProofKit
import Derived.OpenShut
import Derived.ShutString
import Derived.ChangeOld
import Derived.Below
import Derived.Deep.Slices
import Derived.Deep.Fields
import Derived.ChangeSame
import Derived.ChangeVars
import Derived.ChangeMaps
import Derived.JoinedOf
import Derived.LaidLaws
import Derived.LaidHandle
import Derived.HandedShaped
import Derived.Lib.LaidTab
import Derived.Stop.LaidErr
import Derived.Stop.Joined
import Derived.Deep.DeepLaidRun
import Derived.Deep.DeepHandedRow
import Derived.SevenTiedAt
namespace Go.Proofs.YtbffijiecbfpnaaGreatDoor
open Go.RowKit
set_option linter.unusedSimpArgs false
set_option linter.unusedVariables false
/-- the changes of the first q sorts of a module's names -/
def partM (a b : List If) (m : ByteArray) : Nat → List Chg
  | 0 => []
  | q + 1 => partM a b m q ++ rowsF m (selF ((firstIface a m).getD zIf) ((q : Int) == 0)) (selF ((firstIface b m).getD zIf) ((q : Int) == 0)) ((q : Int) == 0)
theorem partM_two (a b : List If) (m : ByteArray) : partM a b m 2 = modF a b m := by
  simp [partM, modF, selF]
theorem sel_plain {l : List If} (h : mayP l = true) (m : ByteArray) (o : Bool) {x : Nm} (hx : x ∈ selF ((firstIface l m).getD zIf) o) : PlainB x.ty = true := by
  cases hf : firstIface l m with
  | none => rw [hf] at hx; cases o <;> simp [selF, zIf] at hx
  | some y =>
    have hy := may_iface h (List.mem_of_find?_eq_some hf)
    rw [imayB] at hy
    simp only [Bool.and_eq_true] at hy
    rw [hf] at hx
    cases o
    · exact named_plain hy.2.2.2.2.2 hx
    · exact named_plain hy.2.2.2.2.1 hx
theorem sel_few {l : List If} (h : l.all fewX = true) (m : ByteArray) (o : Bool) : (selF ((firstIface l m).getD zIf) o).length ≤ 200 := by
  have := first_few h m
  cases o
  · exact this.2
  · exact this.1
theorem partM_len {a b : List If} (ha : a.all fewX = true) (hb : b.all fewX = true) (m : ByteArray) : ∀ q, (partM a b m q).length ≤ 400 * q
  | 0 => by simp [partM]
  | q + 1 => by
    have h1 := partM_len ha hb m q
    have h2 := rowsF_len m (selF ((firstIface a m).getD zIf) ((q : Int) == 0)) (selF ((firstIface b m).getD zIf) ((q : Int) == 0)) ((q : Int) == 0)
    have h3 := sel_few ha m ((q : Int) == 0)
    have h4 := sel_few hb m ((q : Int) == 0)
    rw [partM, List.length_append]; omega
theorem laidX (w : World) (C : Array Value) (T : TypeId) : Below w.heap.size w ((w.alloc (.cells C T)).drew) ∧ Blk ((w.alloc (.cells C T)).drew) w.heap.size C T ∧ ((w.alloc (.cells C T)).drew).heap.size = w.heap.size + 1 := ⟨((Below.refl _ _).alloc (Nat.le_refl _) _).drew, (Blk.new _ _ _).drew, by show (w.alloc (.cells C T)).heap.size = _; simp⟩
theorem kindO_cases (fa fb : Option Nm) (o : Bool) : kindO fa fb o = 0 ∨ 0 < kindO fa fb o := by
  cases fa with
  | none => exact .inr (by simp [kindO])
  | some x =>
    cases fb with
    | none => exact .inr (by simp [kindO])
    | some y =>
      simp only [kindO]
      rcases turn_cases x.ty y.ty o with e | e | e <;> omega
set_option maxRecDepth 100000 in
set_option maxHeartbeats 40000000 in
theorem refChg_c (A A' : Option Addr) (c c' B : Nat) (a b : List If) (w : World) (h1 : IfsAt w B A a) (h2 : IfsAt w B A' b) (hB : B ≤ w.heap.size) (hl : a.length ≤ 1000) (hl' : b.length ≤ 1000) (hfa : a.all fewX = true) (hfb : b.all fewX = true) (ma : mayP a = true) (mb : mayP b = true) :
    Calls Tryz.prog 19 #[.slice A a.length c, .slice A' b.length c'] w fun e w' => ∃ v, e = .returned v ∧ w'.ownsRow w.heap.size 55 4 v (chgF a b).length (flatC (chgF a b)) ∧ Below w.heap.size w w' := by
  obtain ⟨i0, hi, hz0, hz1, hz2⟩ := info_parts info_chg
  have H1 := Lib.hid h1
  have H2 := Lib.hid h2
  have HFA := Lib.hid hfa
  have HFB := Lib.hid hfb
  have HMA := Lib.hid ma
  have HMB := Lib.hid mb
  obtain ⟨R, hR⟩ : ∃ R, chgF a b = R := ⟨_, rfl⟩
  simp only [hR]
  have HR := Lib.hid hR
  have HZlen := Lib.hid (show ([] : List ByteArray).length = 0 from rfl)
  clear h1 h2 hfa hfb ma mb hR
  go_enter Tryz.func19, Tryz.ntmps19
  go_wp2_with fail
  go_loopw [5, 6] (fun v i wk => ∃ (k : Nat) (vv : Value), vv = v ∧ i = .int .i64 k ∧ k ≤ a.length ∧ Below w.heap.size w wk ∧ StrV wk w.heap.size vv (riseL [] ((a.map If.mod).take k))) (fun _ i _ => a.length - (intOf i).toNat)
  case atStart => exact ⟨0, _, rfl, rfl, Nat.zero_le _, Below.refl _ _, .inl ⟨rfl, rfl⟩⟩
  case round =>
    rename World => wka
    obtain ⟨k, vva, rfl, rfl, hk, hb, hv⟩ := hrel
    have HBK := Lib.hid hb
    have HVV := Lib.hid hv
    have hsza := hb.size
    clear hb hv
    by_cases hlt : k < a.length
    · have hltI : (k : Int) < (a.length : Int) := by omega
      obtain ⟨x, hx⟩ : ∃ x, a[k] = x := ⟨_, rfl⟩
      obtain ⟨-, bz, oz, ta, tc, va, vc, rfl, hbz, -, -, -, -, -, -, c2, -, -⟩ := (H1.out.under (HBK.out.mono hB)).elem hlt hx
      have hbw : bz < wka.heap.size := by omega
      have hkk : k ≤ 1000 := by
        skip
        omega
      have hlen : (riseL [] ((a.map If.mod).take k)).length ≤ 100000 := by
        have h1 := riseL_len ((a.map If.mod).take k) []
        have h2 := List.length_take_le k (a.map If.mod)
        have h3 : (a.map If.mod).length = a.length := List.length_map ..
        have h4 := HZlen.out
        skip
        omega
      have hnext : riseF (riseL [] ((a.map If.mod).take k)) x.mod = riseL [] ((a.map If.mod).take (k + 1)) := by
        rw [riseL_succ (by rw [List.length_map]; exact hlt), List.getElem_map, hx]
      have HL := Lib.hid hlen
      have HN := Lib.hid hnext
      have HC := Lib.hid (rise_c w.heap.size _ x.mod _ wka HVV.out (by omega) HL.out)
      clear hlen hnext hx
      go_wp2_with (go_at_call 37; refine HC.out.mono ?_; rintro e wq ⟨vq, rfl, hs, hb⟩)
      exact ⟨⟨k + 1, vq, rfl, by go_num, by omega, HBK.out.trans (hb.mono HBK.out.size), by rw [← HN.out]; exact hs⟩, by simp [intOf]; omega⟩
    · obtain rfl : k = a.length := by omega
      have hltI : ¬ (a.length : Int) < (a.length : Int) := by omega
      have htk : (a.map If.mod).take a.length = a.map If.mod := List.take_of_length_le (by rw [List.length_map]; exact Nat.le_refl _)
      have HSa := Lib.hid (show StrV wka w.heap.size vva (riseL [] (a.map If.mod)) by have := HVV.out; rw [htk] at this; exact this)
      have HBa := Lib.hid HBK.out
      clear HVV HBK htk
      obtain ⟨V1, hV1⟩ : ∃ V, riseL [] (a.map If.mod) = V := ⟨_, rfl⟩
      rw [hV1] at HSa
      have HV1 := Lib.hid hV1
      have HV1len := Lib.hid (show V1.length ≤ 1000 by rw [← hV1]; have := riseL_len (a.map If.mod) []; rw [List.length_map] at this; simp at this; omega)
      clear hV1
      go_wp2_with fail
      go_loopw [5, 7] (fun v i wk => ∃ (k : Nat) (vv : Value), vv = v ∧ i = .int .i64 k ∧ k ≤ b.length ∧ Below wka.heap.size wka wk ∧ StrV wk w.heap.size vv (riseL V1 ((b.map If.mod).take k))) (fun _ i _ => b.length - (intOf i).toNat)
      case atStart => exact ⟨0, _, rfl, rfl, Nat.zero_le _, Below.refl _ _, HSa.out⟩
      case round =>
        rename World => wkb
        obtain ⟨k, vvb, rfl, rfl, hk, hb, hv⟩ := hrel
        have HBK := Lib.hid hb
        have HVV := Lib.hid hv
        have hszb := hb.size
        clear hb hv
        by_cases hlt : k < b.length
        · have hltI : (k : Int) < (b.length : Int) := by omega
          obtain ⟨x, hx⟩ : ∃ x, b[k] = x := ⟨_, rfl⟩
          obtain ⟨-, bz, oz, ta, tc, va, vc, rfl, hbz, -, -, -, -, -, -, c2, -, -⟩ := (H2.out.under ((HBa.out.trans (HBK.out.mono HBa.out.size)).mono hB)).elem hlt hx
          have hbw : bz < wkb.heap.size := by omega
          have hkk : k ≤ 1000 := by
            skip
            omega
          have hlen : (riseL V1 ((b.map If.mod).take k)).length ≤ 100000 := by
            have h1 := riseL_len ((b.map If.mod).take k) V1
            have h2 := List.length_take_le k (b.map If.mod)
            have h3 : (b.map If.mod).length = b.length := List.length_map ..
            have h4 := HV1len.out
            skip
            omega
          have hnext : riseF (riseL V1 ((b.map If.mod).take k)) x.mod = riseL V1 ((b.map If.mod).take (k + 1)) := by
            rw [riseL_succ (by rw [List.length_map]; exact hlt), List.getElem_map, hx]
          have HL := Lib.hid hlen
          have HN := Lib.hid hnext
          have HC := Lib.hid (rise_c w.heap.size _ x.mod _ wkb HVV.out (by omega) HL.out)
          clear hlen hnext hx
          go_wp2_with (go_at_call 37; refine HC.out.mono ?_; rintro e wq ⟨vq, rfl, hs, hb⟩)
          exact ⟨⟨k + 1, vq, rfl, by go_num, by omega, HBK.out.trans (hb.mono HBK.out.size), by rw [← HN.out]; exact hs⟩, by simp [intOf]; omega⟩
        · obtain rfl : k = b.length := by omega
          have hltI : ¬ (b.length : Int) < (b.length : Int) := by omega
          have htk : (b.map If.mod).take b.length = b.map If.mod := List.take_of_length_le (by rw [List.length_map]; exact Nat.le_refl _)
          have HSb := Lib.hid (show StrV wkb w.heap.size vvb (riseL V1 (b.map If.mod)) by have := HVV.out; rw [htk] at this; exact this)
          have HBb := Lib.hid HBK.out
          clear HVV HBK htk
          obtain ⟨U, hU⟩ : ∃ U, riseL V1 (b.map If.mod) = U := ⟨_, rfl⟩
          have hUU : unionN (a.map If.mod) (b.map If.mod) = U := by rw [← hU, ← HV1.out, riseL_union]
          have hUl : U.length ≤ 2000 := by
            have := unionN_len (a.map If.mod) (b.map If.mod)
            rw [hUU, List.length_map, List.length_map] at this; omega
          rw [hU] at HSb
          have HUU := Lib.hid hUU
          have BB := Lib.hid (HBa.out.trans (HBb.out.mono HBa.out.size))
          have huv : ∃ p cap bu ou, vvb = .slice p U.length cap ∧ (0 < U.length → p = some ⟨bu, ou, none⟩ ∧ bu < wkb.heap.size) ∧ ∀ i (h : i < U.length), wkb.cell? ⟨bu, ou + i, none⟩ = some (.string U[i]) := by
            rcases HSb.out with ⟨e1, e2⟩ | ⟨bu, ou, cap, e1, e2, e3, e4, e5, e6⟩
            · exact ⟨none, 0, 0, 0, by rw [e1, e2]; rfl, fun h => by rw [e2] at h; simp at h, fun i h => by rw [e2] at h; simp at h⟩
            · exact ⟨_, cap, bu, ou, e1, fun _ => ⟨rfl, e5⟩, e6⟩
          obtain ⟨pU, capU, bu, ou, rfl, hub, hcU⟩ := huv
          have HUB := Lib.hid hub
          have HCUU := Lib.hid hcU
          clear hU hUU HSa HBa HBb HV1 HV1len HSb hub hcU
          go_wp2_with fail
          go_loopw [8, 9] (fun v i wk => ∃ (k : Nat) (vv : Value), vv = v ∧ i = .int .i64 k ∧ k ≤ U.length ∧ Below wkb.heap.size wkb wk ∧ wk.ownsRow wkb.heap.size 55 4 vv ((U.take k).flatMap (modF a b)).length (flatC ((U.take k).flatMap (modF a b)))) (fun _ i _ => U.length - (intOf i).toNat)
          case atStart => exact ⟨0, _, rfl, rfl, Nat.zero_le _, Below.refl _ _, World.ownsRow_nil _ _ _ _⟩
          case round =>
            rename World => w3
            obtain ⟨k, vv3, rfl, rfl, hk, hb, hown⟩ := hrel
            have HB3 := Lib.hid hb
            have HW3 := Lib.hid hown
            clear hb
            by_cases hlt : k < U.length
            rotate_left
            · obtain rfl : k = U.length := by omega
              have hltI : ¬ (U.length : Int) < (U.length : Int) := by omega
              have e : U.take U.length = U := List.take_of_length_le (Nat.le_refl _)
              have eR : (U.take U.length).flatMap (modF a b) = R := by rw [e, ← HUU.out]; exact HR.out
              rw [eR] at hown
              have HO := Lib.hid hown
              clear hown e eR HW3
              go_wp2_with fail
              go_ret
              exact ⟨vv3, rfl, ownsRow_base HO.out BB.out.size, BB.out.trans (HB3.out.mono BB.out.size)⟩
            have hltI : (k : Int) < (U.length : Int) := by omega
            obtain ⟨m, hm⟩ : ∃ m, U[k] = m := ⟨_, rfl⟩
            obtain ⟨rfl, hbu⟩ := HUB.out (by omega)
            have cu0 := HCUU.out k hlt
            rw [hm] at cu0
            have HCU := Lib.hid cu0
            obtain ⟨L, hL⟩ : ∃ L, (U.take k).flatMap (modF a b) = L := ⟨_, rfl⟩
            have hnext : (U.take (k + 1)).flatMap (modF a b) = L ++ modF a b m := by
              rw [List.take_succ_eq_append_getElem hlt, List.flatMap_append, hL, hm]; simp
            have HNX3 := Lib.hid hnext
            have hLl : L.length ≤ 2000 * 800 := by
              have h := flatMap_le (f := modF a b) (K := 800) (fun m => by
                have e1 := first_few HFA.out m
                have e2 := first_few HFB.out m
                have e3 := rowsF_len m ((firstIface a m).getD zIf).types ((firstIface b m).getD zIf).types true
                have e4 := rowsF_len m ((firstIface a m).getD zIf).vals ((firstIface b m).getD zIf).vals false
                rw [modF, List.length_append]; omega) (U.take k)
              have h2 := List.length_take_le k U
              have : (U.take k).length * 800 ≤ 2000 * 800 := Nat.mul_le_mul_right _ (by omega)
              rw [← hL]; omega
            have HLL := Lib.hid hLl
            rw [hL] at hown
            have HW3' := Lib.hid hown
            clear hown hL hm hnext hLl HW3 cu0
            go_wp2_with fail
            go_loopw [8, 10] (fun v s wk => ∃ (q : Nat) (vv : Value), vv = v ∧ s = .int .i64 q ∧ q ≤ 2 ∧ Below wkb.heap.size wkb wk ∧ wk.ownsRow wkb.heap.size 55 4 vv (L ++ partM a b m q).length (flatC (L ++ partM a b m q))) (fun _ s _ => 2 - (intOf s).toNat)
            case atStart => exact ⟨0, _, rfl, rfl, by omega, HB3.out, by simpa [partM] using HW3'.out⟩
            case round =>
              rename World => w4
              obtain ⟨q, vv4, rfl, rfl, hq, hb, hown⟩ := hrel
              have HB4 := Lib.hid hb
              have HW4 := Lib.hid hown
              clear hb hown
              by_cases hq2 : q < 2
              rotate_left
              · obtain rfl : q = 2 := by omega
                have hqI : ¬ ((2 : Nat) : Int) < 2 := by omega
                have hW := HW4.out
                rw [partM_two, ← HNX3.out] at hW
                have HW5 := Lib.hid hW
                clear hW HW4
                go_wp2_with fail
                exact ⟨⟨k + 1, vv4, rfl, by go_num, by omega, HB4.out, HW5.out⟩, by simp [intOf]; omega⟩
              have hqI : (q : Int) < 2 := by omega
              obtain ⟨o, ho⟩ : ∃ o, ((q : Int) == 0) = o := ⟨_, rfl⟩
              obtain ⟨xs, hxs⟩ : ∃ xs, selF ((firstIface a m).getD zIf) o = xs := ⟨_, rfl⟩
              obtain ⟨ys, hys⟩ : ∃ ys, selF ((firstIface b m).getD zIf) o = ys := ⟨_, rfl⟩
              have AB4 := Lib.hid (BB.out.trans (HB4.out.mono BB.out.size))
              have hB4 : B ≤ w4.heap.size := Nat.le_trans hB AB4.out.size
              have HRA := refRow_c A c B a m o w4 (H1.out.under (AB4.out.mono hB)) hB4 hl
              have HRB := refRow_c A' c' B b m o w4 (H2.out.under (AB4.out.mono hB)) hB4 hl'
              rw [hxs] at HRA
              rw [hys] at HRB
              have HRA := Lib.hid HRA
              have HRB := Lib.hid HRB
              have HXL := Lib.hid (show xs.length ≤ 200 by rw [← hxs]; exact sel_few HFA.out m o)
              have HYL := Lib.hid (show ys.length ≤ 200 by rw [← hys]; exact sel_few HFB.out m o)
              have HPX := Lib.hid (show ∀ x ∈ xs, PlainB x.ty = true from fun x hx => sel_plain HMA.out m o (by rw [hxs]; exact hx))
              have HPY := Lib.hid (show ∀ x ∈ ys, PlainB x.ty = true from fun x hx => sel_plain HMB.out m o (by rw [hys]; exact hx))
              obtain ⟨L4, hL4⟩ : ∃ L4, L ++ partM a b m q = L4 := ⟨_, rfl⟩
              have HLL4 := Lib.hid (show L4.length ≤ 1601000 by
                have h1 := HLL.out
                have h2 := partM_len HFA.out HFB.out m q
                rw [← hL4, List.length_append]
                have : 400 * q ≤ 800 := by omega
                omega)
              have hW := HW4.out
              rw [hL4] at hW
              have HW4 := Lib.hid hW
              have HL4 := Lib.hid hL4
              have HO := Lib.hid ho
              have HXS := Lib.hid hxs
              have HYS := Lib.hid hys
              have cm := (HB4.out.cell (p := ⟨bu, _, none⟩) hbu).trans HCU.out
              have hbu4 := Nat.lt_of_lt_of_le hbu HB4.out.size
              clear hxs hys hL4 hW
              go_upto_region 18 with (go_at_call 38; refine HRA.out.mono ?_; rintro e wr ⟨A2, c2, rfl, hx2, hwr⟩; obtain rfl := hwr.symm; have HX := Lib.hid hx2; clear hx2)
              go_upto_region 19 with (go_at_call 38; refine HRB.out.mono ?_; rintro e wr ⟨A3, c3, rfl, hy2, hwr⟩; obtain rfl := hwr.symm; have HY := Lib.hid hy2; clear hy2)
              clear HRA HRB cm
              have HX7 := Lib.hid (show ∀ w7, Below w.heap.size w w7 → NmsAt w7 B A2 xs from fun w7 hb => HX.out.keep fun p hp => (hb.cell (by omega)).trans (AB4.out.cell (by omega)).symm)
              have HY7 := Lib.hid (show ∀ w7, Below w.heap.size w w7 → NmsAt w7 B A3 ys from fun w7 hb => HY.out.keep fun p hp => (hb.cell (by omega)).trans (AB4.out.cell (by omega)).symm)
              have hbasew : w4.heap.size ≤ w4.heap.size := Nat.le_refl _
              go_wp2_with fail
              go_loopw [13, 14] (fun v i wk => ∃ (k : Nat) (vv : Value), vv = v ∧ i = .int .i64 k ∧ k ≤ xs.length ∧ Below w4.heap.size w4 wk ∧ StrV wk w4.heap.size vv (riseL [] ((xs.map Nm.name).take k))) (fun _ i _ => xs.length - (intOf i).toNat)
              case atStart => exact ⟨0, _, rfl, rfl, Nat.zero_le _, Below.refl _ _, .inl ⟨rfl, rfl⟩⟩
              case round =>
                rename World => wke
                obtain ⟨k, vve, rfl, rfl, hk, hb, hv⟩ := hrel
                have HBK := Lib.hid hb
                have HVV := Lib.hid hv
                have hsze := hb.size
                clear hb hv
                by_cases hlt : k < xs.length
                · have hltI : (k : Int) < (xs.length : Int) := by omega
                  obtain ⟨x, hx⟩ : ∃ x, xs[k] = x := ⟨_, rfl⟩
                  obtain ⟨-, bz, oz, na, nc, sa, sc, rfl, hbz, -, c0, -⟩ := (HX.out.under ((HBK.out.mono hB4))).elem hlt hx
                  have hbw : bz < wke.heap.size := by omega
                  have hkk : k ≤ 1000 := by
                    have h5 := HXL.out
                    omega
                  have hlen : (riseL [] ((xs.map Nm.name).take k)).length ≤ 100000 := by
                    have h1 := riseL_len ((xs.map Nm.name).take k) []
                    have h2 := List.length_take_le k (xs.map Nm.name)
                    have h3 : (xs.map Nm.name).length = xs.length := List.length_map ..
                    have h4 := HZlen.out
                    have h5 := HXL.out
                    omega
                  have hnext : riseF (riseL [] ((xs.map Nm.name).take k)) x.name = riseL [] ((xs.map Nm.name).take (k + 1)) := by
                    rw [riseL_succ (by rw [List.length_map]; exact hlt), List.getElem_map, hx]
                  have HL := Lib.hid hlen
                  have HN := Lib.hid hnext
                  have HC := Lib.hid (rise_c w4.heap.size _ x.name _ wke HVV.out (by omega) HL.out)
                  clear hlen hnext hx
                  go_wp2_with (go_at_call 37; refine HC.out.mono ?_; rintro e wq ⟨vq, rfl, hs, hb⟩)
                  exact ⟨⟨k + 1, vq, rfl, by go_num, by omega, HBK.out.trans (hb.mono HBK.out.size), by rw [← HN.out]; exact hs⟩, by simp [intOf]; omega⟩
                · obtain rfl : k = xs.length := by omega
                  have hltI : ¬ (xs.length : Int) < (xs.length : Int) := by omega
                  have htk : (xs.map Nm.name).take xs.length = xs.map Nm.name := List.take_of_length_le (by rw [List.length_map]; exact Nat.le_refl _)
                  have HSe := Lib.hid (show StrV wke w4.heap.size vve (riseL [] (xs.map Nm.name)) by have := HVV.out; rw [htk] at this; exact this)
                  have HBe := Lib.hid HBK.out
                  clear HVV HBK htk
                  obtain ⟨V2, hV2⟩ : ∃ V, riseL [] (xs.map Nm.name) = V := ⟨_, rfl⟩
                  rw [hV2] at HSe
                  have HV2 := Lib.hid hV2
                  have HV2len := Lib.hid (show V2.length ≤ 1000 by rw [← hV2]; have h1 := riseL_len (xs.map Nm.name) []; have h2 := HXL.out; rw [List.length_map] at h1; simp at h1; omega)
                  clear hV2
                  go_wp2_with fail
                  go_loopw [13, 15] (fun v i wk => ∃ (k : Nat) (vv : Value), vv = v ∧ i = .int .i64 k ∧ k ≤ ys.length ∧ Below wke.heap.size wke wk ∧ StrV wk w4.heap.size vv (riseL V2 ((ys.map Nm.name).take k))) (fun _ i _ => ys.length - (intOf i).toNat)
                  case atStart => exact ⟨0, _, rfl, rfl, Nat.zero_le _, Below.refl _ _, HSe.out⟩
                  case round =>
                    rename World => wkf
                    obtain ⟨k, vvf, rfl, rfl, hk, hb, hv⟩ := hrel
                    have HBK := Lib.hid hb
                    have HVV := Lib.hid hv
                    have hszf := hb.size
                    clear hb hv
                    by_cases hlt : k < ys.length
                    · have hltI : (k : Int) < (ys.length : Int) := by omega
                      obtain ⟨x, hx⟩ : ∃ x, ys[k] = x := ⟨_, rfl⟩
                      obtain ⟨-, bz, oz, na, nc, sa, sc, rfl, hbz, -, c0, -⟩ := (HY.out.under (((HBe.out.trans (HBK.out.mono HBe.out.size)).mono hB4))).elem hlt hx
                      have hbw : bz < wkf.heap.size := by omega
                      have hkk : k ≤ 1000 := by
                        have h5 := HYL.out
                        omega
                      have hlen : (riseL V2 ((ys.map Nm.name).take k)).length ≤ 100000 := by
                        have h1 := riseL_len ((ys.map Nm.name).take k) V2
                        have h2 := List.length_take_le k (ys.map Nm.name)
                        have h3 : (ys.map Nm.name).length = ys.length := List.length_map ..
                        have h4 := HV2len.out
                        have h5 := HYL.out
                        omega
                      have hnext : riseF (riseL V2 ((ys.map Nm.name).take k)) x.name = riseL V2 ((ys.map Nm.name).take (k + 1)) := by
                        rw [riseL_succ (by rw [List.length_map]; exact hlt), List.getElem_map, hx]
                      have HL := Lib.hid hlen
                      have HN := Lib.hid hnext
                      have HC := Lib.hid (rise_c w4.heap.size _ x.name _ wkf HVV.out (by omega) HL.out)
                      clear hlen hnext hx
                      go_wp2_with (go_at_call 37; refine HC.out.mono ?_; rintro e wq ⟨vq, rfl, hs, hb⟩)
                      exact ⟨⟨k + 1, vq, rfl, by go_num, by omega, HBK.out.trans (hb.mono HBK.out.size), by rw [← HN.out]; exact hs⟩, by simp [intOf]; omega⟩
                    · obtain rfl : k = ys.length := by omega
                      have hltI : ¬ (ys.length : Int) < (ys.length : Int) := by omega
                      have htk : (ys.map Nm.name).take ys.length = ys.map Nm.name := List.take_of_length_le (by rw [List.length_map]; exact Nat.le_refl _)
                      have HSf := Lib.hid (show StrV wkf w4.heap.size vvf (riseL V2 (ys.map Nm.name)) by have := HVV.out; rw [htk] at this; exact this)
                      have HBf := Lib.hid HBK.out
                      clear HVV HBK htk
                      obtain ⟨N, hN⟩ : ∃ N, riseL V2 (ys.map Nm.name) = N := ⟨_, rfl⟩
                      have hNN : unionN (xs.map Nm.name) (ys.map Nm.name) = N := by rw [← hN, ← HV2.out, riseL_union]
                      have hNl : N.length ≤ 400 := by
                        have := unionN_len (xs.map Nm.name) (ys.map Nm.name)
                        have h1 := HXL.out
                        have h2 := HYL.out
                        rw [hNN, List.length_map, List.length_map] at this; omega
                      rw [hN] at HSf
                      have HN := Lib.hid hNN
                      have HB6 := Lib.hid (HB4.out.trans ((HBe.out.trans (HBf.out.mono HBe.out.size)).mono HB4.out.size))
                      have HW6 := Lib.hid (owns_under' (owns_under' HW4.out HBe.out) HBf.out)
                      have hz6 : w4.heap.size ≤ wkf.heap.size := Nat.le_trans HBe.out.size HBf.out.size
                      have hnv : ∃ p cap nb no, vvf = .slice p N.length cap ∧ (0 < N.length → p = some ⟨nb, no, none⟩ ∧ w4.heap.size ≤ nb ∧ nb < wkf.heap.size) ∧ ∀ i (h : i < N.length), wkf.cell? ⟨nb, no + i, none⟩ = some (.string N[i]) := by
                        rcases HSf.out with ⟨e1, e2⟩ | ⟨nb, no, cap, e1, e2, e0, e3, e4, e5⟩
                        · exact ⟨none, 0, 0, 0, by rw [e1, e2]; rfl, fun h => by rw [e2] at h; simp at h, fun i h => by rw [e2] at h; simp at h⟩
                        · exact ⟨_, cap, nb, no, e1, fun _ => ⟨rfl, e3, e4⟩, e5⟩
                      obtain ⟨pN, capN, nb, no, rfl, hnb, hcN⟩ := hnv
                      have HNB := Lib.hid hnb
                      have HCN := Lib.hid hcN
                      have HP6 := Lib.hid (show ∀ g, vv4.ownBlock = some g → g < w4.heap.size ∨ wkf.heap.size ≤ g from fun g hg => .inl (owns_lt' HW4.out hg).2)
                      clear hN hNN hnb hcN HSe HSf HV2 HV2len HBe HBf HW4 HB4
                      go_wp2_with fail
                      go_loopw [8, 16] (fun v i wk => ∃ (j : Nat) (vv : Value), vv = v ∧ i = .int .i64 j ∧ j ≤ N.length ∧ Below wkb.heap.size wkb wk ∧ wkf.heap.size ≤ wk.heap.size ∧ wk.ownsRow wkb.heap.size 55 4 vv (L4 ++ (N.take j).flatMap (oneF m xs ys o)).length (flatC (L4 ++ (N.take j).flatMap (oneF m xs ys o))) ∧ (∀ i (h : i < N.length), wk.cell? ⟨nb, no + i, none⟩ = some (.string N[i])) ∧ ∀ g, vv.ownBlock = some g → g < w4.heap.size ∨ wkf.heap.size ≤ g) (fun _ i _ => N.length - (intOf i).toNat)
                      case atStart => exact ⟨0, _, rfl, rfl, Nat.zero_le _, HB6.out, Nat.le_refl _, by simpa using HW6.out, HCN.out, HP6.out⟩
                      case round =>
                        rename World => w7
                        obtain ⟨j, vv, rfl, rfl, hj, hb, hz7, hown, hcells, hap⟩ := hrel
                        have HB7 := Lib.hid hb
                        have HW7 := Lib.hid hown
                        have HC7 := Lib.hid hcells
                        have HP7 := Lib.hid hap
                        clear hb hown hcells hap
                        by_cases hjt : j < N.length
                        rotate_left
                        · obtain rfl : j = N.length := by omega
                          have hjI : ¬ (N.length : Int) < (N.length : Int) := by omega
                          have e : N.take N.length = N := List.take_of_length_le (Nat.le_refl _)
                          have hend : L4 ++ (N.take N.length).flatMap (oneF m xs ys o) = L ++ partM a b m (q + 1) := by rw [e, partM, ← List.append_assoc, HL4.out, ← HN.out, HO.out, HXS.out, HYS.out]; rfl
                          have HW8 := HW7.out
                          rw [hend] at HW8
                          have HW9 := Lib.hid HW8
                          clear hend e HW8 HW7
                          go_wp2_with fail
                          exact ⟨⟨q + 1, vv, rfl, by go_num, by omega, HB7.out, HW9.out⟩, by simp [intOf]; omega⟩
                        have hjI : (j : Int) < (N.length : Int) := by omega
                        obtain ⟨rfl, hnb1, hnb2⟩ := HNB.out (by omega)
                        obtain ⟨n, hn⟩ : ∃ n, N[j] = n := ⟨_, rfl⟩
                        have cn := HC7.out j hjt
                        rw [hn] at cn
                        have hnb3 : nb < w7.heap.size := by omega
                        have hnext : (N.take (j + 1)).flatMap (oneF m xs ys o) = (N.take j).flatMap (oneF m xs ys o) ++ oneF m xs ys o n := by
                          rw [List.take_succ_eq_append_getElem hjt, List.flatMap_append, hn]; simp
                        obtain ⟨kd, hkd⟩ : ∃ kd, kindF xs ys n o = kd := ⟨_, rfl⟩
                        have HAB := Lib.hid (BB.out.trans (HB7.out.mono BB.out.size))
                        have hB7 : B ≤ w7.heap.size := Nat.le_trans hB HAB.out.size
                        have HB47 : Below w4.heap.size w4 w4 := Below.refl _ _
                        have HONE := Lib.hid (one_c A2 A3 c2 c3 B xs ys n o w7 (HX7.out w7 HAB.out) (HY7.out w7 HAB.out) hB7 (by have := HXL.out; omega) (by have := HYL.out; omega) HPX.out HPY.out)
                        rw [hkd] at HONE
                        have hcases := kindO_cases (firstNamed xs n) (firstNamed ys n) o
                        rw [show kindO (firstNamed xs n) (firstNamed ys n) o = kd from hkd] at hcases
                        have hone : oneF m xs ys o n = if 0 < kd then [⟨kd, m, n, o⟩] else [] := by rw [oneF, hkd]
                        have HN2 := Lib.hid hnext
                        have HON := Lib.hid hone
                        clear hn hnext hkd hone HB47
                        go_upto_region 32 with (go_at_call 39; refine HONE.out.mono ?_; rintro e w8 ⟨rfl, hb8⟩; have HB8 := Lib.hid (HB7.out.trans (hb8.mono HB7.out.size)); have HW8 := Lib.hid (owns_under' HW7.out hb8); have cn8 := (hb8.cell (p := ⟨nb, _, none⟩) hnb3).trans cn; have HC8 := Lib.hid (fun i hi => (hb8.cell (p := ⟨nb, _, none⟩) hnb3).trans (HC7.out i hi)); have hz8 := Nat.le_trans hz7 hb8.size; clear hb8 cn)
                        clear HONE
                        rcases hcases with rfl | hpos
                        · have hnil : oneF m xs ys o n = [] := by rw [HON.out]; rfl
                          have HNIL := Lib.hid hnil
                          clear hnil
                          go_wp2_with fail
                          exact ⟨⟨j + 1, vv, rfl, by go_num, by omega, HB8.out, hz8, by rw [HN2.out, HNIL.out, List.append_nil]; exact HW8.out, HC8.out, HP7.out⟩, by simp [intOf]; omega⟩
                        have hnil : oneF m xs ys o n = [⟨kd, m, n, o⟩] := by rw [HON.out, if_pos hpos]
                        have HNIL := Lib.hid hnil
                        have hkne : (kd != 0) = true := by simp; omega
                        clear hnil hpos
                        go_upto_region 33 with fail
                        have hnb8 : nb < w8.heap.size := by omega
                        have cu := (HB8.out.cell (p := ⟨bu, _, none⟩) hbu).trans HCU.out
                        obtain ⟨LL, hLL⟩ : ∃ LL, L4 ++ (N.take j).flatMap (oneF m xs ys o) = LL := ⟨_, rfl⟩
                        have hWL := HW8.out
                        rw [hLL] at hWL
                        have HWL := Lib.hid hWL
                        have hlx : LL.length ≤ 2000000 := by
                          have h1 := HLL4.out
                          have h2 := flatMap_le (f := oneF m xs ys o) (K := 1) (fun x => by unfold oneF; split <;> simp) (N.take j)
                          have h3 := List.length_take_le j N
                          rw [← hLL, List.length_append]; omega
                        have HLX := Lib.hid hlx
                        have HLLE := Lib.hid hLL
                        clear hWL hlx hLL HW8 HW7
                        refine wp_region_until [(13, fun w' => w'.cell? ⟨bu, ou + k, none⟩ = some (.string m) ∧ w'.cell? ⟨nb, no + j, none⟩ = some (.string n))] (by kernel_rfl) (Until.cons (fun _ => ⟨cu, cn8⟩) Until.nil) (fun hU => ?_)
                        refine AnyU.take (i := 0) (v := ?_) rfl (by kernel_rfl) (by kernel_rfl) (by kernel_rfl) (fun _ _ _ h => h) (by kernel_rfl) (by assumption) (by rfl) ?_ (fun hV => ?_)
                        rotate_left 1
                        · (intro wq; go_simp; try with_reducible rfl)
                        clear hU
                        have hU := hV
                        clear hV
                        try simp only [Act.put, List.getElem_toArray, List.getElem_cons_zero, List.getElem_cons_succ, List.setIfInBounds_toArray, List.set_cons_zero, List.set_cons_succ]
                        refine AnyU.take (i := 1) (v := ?_) rfl (by kernel_rfl) (by kernel_rfl) (by kernel_rfl) (fun _ _ _ h => h) (by kernel_rfl) (by assumption) (by rfl) ?_ (fun hV => ?_)
                        rotate_left 1
                        · (intro wq; go_simp; try with_reducible rfl)
                        clear hU
                        have hU := hV
                        clear hV
                        try simp only [Act.put, List.getElem_toArray, List.getElem_cons_zero, List.getElem_cons_succ, List.setIfInBounds_toArray, List.set_cons_zero, List.set_cons_succ]
                        refine AnyU.take (i := 2) (v := ?_) rfl (by kernel_rfl) (by kernel_rfl) (by kernel_rfl) (fun _ _ _ h => h) (by kernel_rfl) (by assumption) (by rfl) ?_ (fun hV => ?_)
                        rotate_left 1
                        · (intro wq; go_simp; try with_reducible rfl)
                        clear hU
                        have hU := hV
                        clear hV
                        try simp only [Act.put, List.getElem_toArray, List.getElem_cons_zero, List.getElem_cons_succ, List.setIfInBounds_toArray, List.set_cons_zero, List.set_cons_succ]
                        refine AnyU.take (i := 3) (v := ?_) rfl (by kernel_rfl) (by kernel_rfl) (by kernel_rfl) (fun _ _ _ h => h) (by kernel_rfl) (by assumption) (by rfl) ?_ (fun hV => ?_)
                        rotate_left 1
                        · (intro wq; go_simp; try with_reducible rfl)
                        clear hU
                        have hU := hV
                        clear hV
                        try simp only [Act.put, List.getElem_toArray, List.getElem_cons_zero, List.getElem_cons_succ, List.setIfInBounds_toArray, List.set_cons_zero, List.set_cons_succ]
                        refine AnyU.take (i := 4) (v := ?_) rfl (by kernel_rfl) (by kernel_rfl) (by kernel_rfl) (fun _ _ _ h => h) (by kernel_rfl) (by assumption) (by rfl) ?_ (fun hV => ?_)
                        rotate_left 1
                        · (intro wq; go_simp; try with_reducible rfl)
                        clear hU
                        have hU := hV
                        clear hV
                        try simp only [Act.put, List.getElem_toArray, List.getElem_cons_zero, List.getElem_cons_succ, List.setIfInBounds_toArray, List.set_cons_zero, List.set_cons_succ]
                        refine AnyU.loadc (i := 5) (d := 13) [12, 13] (Si := fun w' => w'.cell? ⟨bu, ou + k, none⟩ = some (.string m) ∧ w'.cell? ⟨nb, no + j, none⟩ = some (.string n)) (v := ?_) rfl (by kernel_rfl) (by kernel_rfl) (by kernel_rfl) (fun _ _ _ h => h) (by kernel_rfl) (by assumption) (by kernel_rfl) rfl (by simp) (by rfl) ?_ (fun hV => ?_)
                        rotate_left 1
                        · (intro wq hq; obtain ⟨u, -⟩ := hq; go_simp; try with_reducible rfl)
                        clear hU
                        have hU := hV
                        clear hV
                        try simp only [Act.put, List.getElem_toArray, List.getElem_cons_zero, List.getElem_cons_succ, List.setIfInBounds_toArray, List.set_cons_zero, List.set_cons_succ]
                        refine AnyU.take (i := 6) (v := ?_) rfl (by kernel_rfl) (by kernel_rfl) (by kernel_rfl) (fun _ _ _ h => h) (by kernel_rfl) (by assumption) (by rfl) ?_ (fun hV => ?_)
                        rotate_left 1
                        · (intro wq; go_simp; try with_reducible rfl)
                        clear hU
                        have hU := hV
                        clear hV
                        try simp only [Act.put, List.getElem_toArray, List.getElem_cons_zero, List.getElem_cons_succ, List.setIfInBounds_toArray, List.set_cons_zero, List.set_cons_succ]
                        refine AnyU.take (i := 7) (v := ?_) rfl (by kernel_rfl) (by kernel_rfl) (by kernel_rfl) (fun _ _ _ h => h) (by kernel_rfl) (by assumption) (by rfl) ?_ (fun hV => ?_)
                        rotate_left 1
                        · (intro wq; go_simp; try with_reducible rfl)
                        clear hU
                        have hU := hV
                        clear hV
                        try simp only [Act.put, List.getElem_toArray, List.getElem_cons_zero, List.getElem_cons_succ, List.setIfInBounds_toArray, List.set_cons_zero, List.set_cons_succ]
                        refine AnyU.take (i := 8) (v := ?_) rfl (by kernel_rfl) (by kernel_rfl) (by kernel_rfl) (fun _ _ _ h => h) (by kernel_rfl) (by assumption) (by rfl) ?_ (fun hV => ?_)
                        rotate_left 1
                        · (intro wq; go_simp; try with_reducible rfl)
                        clear hU
                        have hU := hV
                        clear hV
                        try simp only [Act.put, List.getElem_toArray, List.getElem_cons_zero, List.getElem_cons_succ, List.setIfInBounds_toArray, List.set_cons_zero, List.set_cons_succ]
                        refine AnyU.loadc (i := 9) (d := 13) [12, 13] (Si := fun w' => w'.cell? ⟨bu, ou + k, none⟩ = some (.string m) ∧ w'.cell? ⟨nb, no + j, none⟩ = some (.string n)) (v := ?_) rfl (by kernel_rfl) (by kernel_rfl) (by kernel_rfl) (fun _ _ _ h => h) (by kernel_rfl) (by assumption) (by kernel_rfl) rfl (by simp) (by rfl) ?_ (fun hV => ?_)
                        rotate_left 1
                        · (intro wq hq; obtain ⟨-, u⟩ := hq; go_simp; try with_reducible rfl)
                        clear hU
                        have hU := hV
                        clear hV
                        try simp only [Act.put, List.getElem_toArray, List.getElem_cons_zero, List.getElem_cons_succ, List.setIfInBounds_toArray, List.set_cons_zero, List.set_cons_succ]
                        refine AnyU.take (i := 10) (v := ?_) rfl (by kernel_rfl) (by kernel_rfl) (by kernel_rfl) (fun _ _ _ h => h) (by kernel_rfl) (by assumption) (by rfl) ?_ (fun hV => ?_)
                        rotate_left 1
                        · (intro wq; go_simp; try with_reducible rfl)
                        clear hU
                        have hU := hV
                        clear hV
                        try simp only [Act.put, List.getElem_toArray, List.getElem_cons_zero, List.getElem_cons_succ, List.setIfInBounds_toArray, List.set_cons_zero, List.set_cons_succ]
                        refine AnyU.take (i := 11) (v := ?_) rfl (by kernel_rfl) (by kernel_rfl) (by kernel_rfl) (fun _ _ _ h => h) (by kernel_rfl) (by assumption) (by rfl) ?_ (fun hV => ?_)
                        rotate_left 1
                        · (intro wq; go_simp; try with_reducible rfl)
                        clear hU
                        have hU := hV
                        clear hV
                        try simp only [Act.put, List.getElem_toArray, List.getElem_cons_zero, List.getElem_cons_succ, List.setIfInBounds_toArray, List.set_cons_zero, List.set_cons_succ]
                        refine AnyU.take (i := 12) (v := ?_) rfl (by kernel_rfl) (by kernel_rfl) (by kernel_rfl) (fun _ _ _ h => h) (by kernel_rfl) (by assumption) (by rfl) ?_ (fun hV => ?_)
                        rotate_left 1
                        · (intro wq; go_simp; try with_reducible rfl)
                        clear hU
                        have hU := hV
                        clear hV
                        try simp only [Act.put, List.getElem_toArray, List.getElem_cons_zero, List.getElem_cons_succ, List.setIfInBounds_toArray, List.set_cons_zero, List.set_cons_succ]
                        refine AnyU.ready1 (i := 13) (by kernel_rfl) (AnyU.one rfl fun K hK => ?_)
                        go_simp
                        obtain ⟨hX, hbX, hsX⟩ := laidX w8 #[.int .i64 kd, .string m, .string n, .bool o] 55
                        generalize hX3 : ((w8.alloc (.cells #[.int .i64 kd, .string m, .string n, .bool o] 55)).drew) = X3 at hX hbX hsX ⊢
                        clear hX3
                        refine hK.out _ _ (Until.off (by kernel_rfl)) (fun hV => ?_)
                        clear hK K
                        clear hU
                        have hU := hV
                        clear hV
                        try simp only [Act.put, List.getElem_toArray, List.getElem_cons_zero, List.getElem_cons_succ, List.setIfInBounds_toArray, List.set_cons_zero, List.set_cons_succ]
                        refine AnyU.ready1 (i := 14) (by kernel_rfl) (AnyU.one rfl fun K hK => ?_)
                        have hone4 : ∀ u ∈ (#[.int .i64 kd, .string m, .string n, .bool o] : Array Value).toList, u.oneCell' = true := by simp [Value.oneCell']
                        have hml := HLX.out
                        refine step_append_lies X3 (by rfl) _ _ _ (by rfl) wkb.heap.size 55 i0 _ 4 48 Tryz.underlying50 hi hz0 hz1 hz2 rfl (by decide) vv LL.length (flatC LL) (by rfl) (owns_under' HWL.out hX) ⟨w8.heap.size, 0, none⟩ 1 1 (#[.int .i64 kd, .string m, .string n, .bool o] : Array Value).toList (by rfl) (by rfl) (World.news_of_block (cs := #[.int .i64 kd, .string m, .string n, .bool o]) (t := 55) (fr := (0, 0)) hbX) hone4 (by decide) (by unfold maxLen; omega) (by omega) (by have := HB8.out.size; omega) _ rfl ?_
                        intro g cS x4 hown hg hat hlt4
                        refine hK.out _ _ (Until.off (by kernel_rfl)) (fun hV => ?_)
                        clear hK K
                        clear hU
                        have hU := hV
                        clear hV
                        try simp only [Act.put, List.getElem_toArray, List.getElem_cons_zero, List.getElem_cons_succ, List.setIfInBounds_toArray, List.set_cons_zero, List.set_cons_succ]
                        refine AnyU.ready1 (i := 15) (by kernel_rfl) (AnyU.one rfl fun K hK => ?_)
                        go_simp
                        refine hK.out _ _ (Until.off (by kernel_rfl)) (fun hV => ?_)
                        clear hK K
                        clear hU
                        have hU := hV
                        clear hV
                        try simp only [Act.put, List.getElem_toArray, List.getElem_cons_zero, List.getElem_cons_succ, List.setIfInBounds_toArray, List.set_cons_zero, List.set_cons_succ]
                        refine AnyU.done (by kernel_rfl) ?_
                        clear hU
                        have hz9 := Nat.le_trans (Nat.le_trans hz8 hX.size) hg.size
                        have HB9 := Lib.hid ((HB8.out.trans (hX.mono HB8.out.size)).grown hg (by have := HB8.out.size; omega) (fun q hq => (owns_lt' HWL.out hq).1))
                        have hC9 : ∀ i (h : i < N.length), x4.cell? ⟨nb, no + i, none⟩ = some (.string N[i]) := fun i hi => by
                          rw [hg.cell_far ⟨nb, no + i, none⟩ (by show nb < X3.heap.size; omega) (fun e => by have := HP7.out nb e.symm; omega), hX.cell (p := ⟨nb, _, none⟩) hnb8]
                          exact HC8.out i hi
                        have hP9 : ∀ g', (Value.slice (some ⟨g, 0, none⟩) (LL.length + 1) cS).ownBlock = some g' → g' < w4.heap.size ∨ wkf.heap.size ≤ g' := fun g' e => by
                          have e' : g = g' := by simpa [Value.ownBlock] using e
                          subst e'
                          rcases hat with e | e
                          · exact HP7.out g e
                          · right; omega
                        have hW9 : x4.ownsRow wkb.heap.size 55 4 (.slice (some ⟨g, 0, none⟩) (LL.length + 1) cS) (L4 ++ (N.take (j + 1)).flatMap (oneF m xs ys o)).length (flatC (L4 ++ (N.take (j + 1)).flatMap (oneF m xs ys o))) := by
                          rw [HN2.out, HNIL.out, ← List.append_assoc, HLLE.out, flatC_push, List.length_append]
                          exact hown
                        have HC9 := Lib.hid hC9
                        have HP9 := Lib.hid hP9
                        have HW9 := Lib.hid hW9
                        clear hC9 hP9 hW9 hown hg hat hX hbX hsX hone4 hml cu cn8
                        go_wp2_with fail
                        exact ⟨⟨j + 1, _, rfl, by go_num, by omega, HB9.out, hz9, HW9.out, HC9.out, HP9.out⟩, by simp [intOf]; omega⟩
end Go.Proofs.YtbffijiecbfpnaaGreatDoor
namespace Go.Proofs.YtbffijiecbfpnaaGreatDoor
open Go.RowKit
set_option linter.unusedSimpArgs false
set_option linter.unusedVariables false
set_option maxRecDepth 100000 in
set_option maxHeartbeats 8000000 in
theorem fair_c (A A' : Option Addr) (c c' B : Nat) (a b : List If) (w : World) (h1 : IfsAt w B A a) (h2 : IfsAt w B A' b) (hB : B ≤ w.heap.size) (hl : a.length ≤ 1000) (hl' : b.length ≤ 1000) (hfa : a.all fewX = true) (hfb : b.all fewX = true) :
    Calls Tryz.prog 7 #[.slice A a.length c, .slice A' b.length c'] w fun e w' => e = .returned (.bool (fairB a b)) ∧ Below w.heap.size w w' := by
  have H1 := Lib.hid h1
  have H2 := Lib.hid h2
  have hma := fun w h hB => refMay12_c a A c B w h hB (by unfold maxLen; omega) hfa
  have hmb := fun w h hB => refMay12_c b A' c' B w h hB (by unfold maxLen; omega) hfb
  obtain ⟨ma, hm1⟩ : ∃ m, mayP a = m := ⟨_, rfl⟩
  obtain ⟨mb, hm2⟩ : ∃ m, mayP b = m := ⟨_, rfl⟩
  obtain ⟨q, hq⟩ : ∃ q, fairB a b = q := ⟨_, rfl⟩
  have hq2 : (ma && (mb && headB a b)) = q := by rw [← hq, fairB, hm1, hm2]
  simp only [hq]
  simp only [hm1] at hma
  simp only [hm2] at hmb
  have HQ := Lib.hid hq2
  have HMA := Lib.hid hma
  have HMB := Lib.hid hmb
  clear h1 h2 hma hmb hm1 hm2 hfa hfb hq hq2
  go_enter Tryz.func7, Tryz.ntmps7
  go_upto_region 2 with (go_at_call 17; refine (HMA.out _ H1.out hB).mono ?_; rintro e w1 ⟨rfl, hb⟩; have B1 := Lib.hid hb; clear hb)
  go_upto_region 3 with (go_at_call 17; refine (HMB.out _ (H2.out.under (B1.out.mono hB)) (Nat.le_trans hB B1.out.size)).mono ?_; rintro e w2 ⟨rfl, hb⟩; have B2 := Lib.hid (B1.out.trans (hb.mono B1.out.size)); clear hb)
  cases ma
  · have hr : q = false := by rw [← HQ.out]; rfl
    subst hr
    go_quiet (fail)
    go_wp2_with fail
    go_ret
    exact ⟨rfl, below_drewN B2.out _⟩
  cases mb
  · have hr : q = false := by rw [← HQ.out]; rfl
    subst hr
    go_quiet (fail)
    go_wp2_with fail
    go_ret
    exact ⟨rfl, below_drewN B2.out _⟩
  by_cases hn1 : a.length = 0
  · have ha : a = [] := List.eq_nil_of_length_eq_zero hn1
    have hr : q = true := by rw [← HQ.out, ha, head_nil1]; rfl
    subst hr ha
    go_quiet (fail)
    go_wp2_with fail
    go_ret
    exact ⟨rfl, below_drewN B2.out _⟩
  by_cases hn2 : b.length = 0
  · have hb0 : b = [] := List.eq_nil_of_length_eq_zero hn2
    have hr : q = true := by rw [← HQ.out, hb0, head_nil2]; rfl
    have hz : ((a.length : Int) == 0) = false := by simp; exact fun e => hn1 (by rw [e]; rfl)
    subst hr hb0
    clear hn1
    go_quiet (fail)
    go_wp2_with fail
    go_ret
    exact ⟨rfl, below_drewN B2.out _⟩
  have hne1 : 0 < a.length := by omega
  have hne2 : 0 < b.length := by omega
  obtain ⟨x, hx⟩ : ∃ x, a[0] = x := ⟨_, rfl⟩
  obtain ⟨y, hy⟩ : ∃ y, b[0] = y := ⟨_, rfl⟩
  obtain ⟨-, ba, oa, -, -, -, -, rfl, hba, -, -, -, -, r0, r1, -⟩ := H1.out.elem hne1 hx
  obtain ⟨-, bb, ob, -, -, -, -, rfl, hbb, -, -, -, -, s0, s1, -⟩ := H2.out.elem hne2 hy
  simp at r0 r1 s0 s1
  have hbaW : ba < w.heap.size := by omega
  have hbbW : bb < w.heap.size := by omega
  rw [← B2.out.cell (p := ⟨ba, _, none⟩) hbaW] at r0 r1
  rw [← B2.out.cell (p := ⟨bb, _, none⟩) hbbW] at s0 s1
  have hla : ba < w2.heap.size := Nat.lt_of_lt_of_le hbaW B2.out.size
  have hlb : bb < w2.heap.size := Nat.lt_of_lt_of_le hbbW B2.out.size
  have hh := head_at hne1 hne2 hx hy
  obtain ⟨ep, hep⟩ : ∃ e, (x.pkg.toList == y.pkg.toList) = e := ⟨_, rfl⟩
  obtain ⟨em, hem⟩ : ∃ e, (x.major == y.major) = e := ⟨_, rfl⟩
  have hr : q = (ep && em) := by rw [← HQ.out, hh, hep, hem]; rfl
  subst hr
  have hz1 : ((a.length : Int) == 0) = false := by simp; exact fun e => hn1 (by rw [e]; rfl)
  have hz2 : ((b.length : Int) == 0) = false := by simp; exact fun e => hn2 (by rw [e]; rfl)
  clear hh hx hy hn1 hn2
  cases ep
  all_goals
    go_quiet (fail)
    go_wp2_with fail
    go_ret
    exact ⟨rfl, below_drewN B2.out _⟩
end Go.Proofs.YtbffijiecbfpnaaGreatDoor
namespace Go.Proofs.YtbffijiecbfpnaaGreatDoor
open Go.RowKit
set_option linter.unusedSimpArgs false
set_option linter.unusedVariables false
set_option maxRecDepth 100000 in
set_option maxHeartbeats 40000000 in
theorem wantYes_c (A A' : Option Addr) (c c' B : Nat) (a b : List If) (cc : Chg) (x : If) (n : Nm) (w : World) (h1 : IfsAt w B A a) (h2 : IfsAt w B A' b) (hB : B ≤ w.heap.size) (hl : a.length ≤ 1000) (hl' : b.length ≤ 1000) (hf : fairB a b = true) (hfa : a.all fewX = true) (hfb : b.all fewX = true) (ma : mayP a = true) (mb : mayP b = true) (hbig : bigC (chgF a b) = some cc)
    (hx : firstIface a cc.mod = some x) (hn : firstNamed (selF x cc.ofType) cc.name = some n) :
    Calls Tryz.prog 9 #[.slice A a.length c, .slice A' b.length c'] w fun e w' => (∃ v, e = .returned (.tuple #[v, .bool true]) ∧ UAt w' v (some ⟨x, cc, n.ty⟩)) ∧ Below w.heap.size w w' := by
  have hW := Blk.new w #[.slice none 0 0, .slice none 0 0] 28
  have hbW : Below w.heap.size w (w.alloc (.cells #[.slice none 0 0, .slice none 0 0] 28)) := (Below.refl _ _).alloc (Nat.le_refl _) _
  have HC := Lib.hid (refChg_c A A' c c' B a b (w.alloc (.cells #[.slice none 0 0, .slice none 0 0] 28)) (h1.alloc hB _) (h2.alloc hB _) (Nat.le_trans hB hbW.size) hl hl' hfa hfb ma mb)
  have hLen : (chgF a b).length ≤ 2000000 := Nat.le_trans (chgF_len hl hl' hfa hfb) (by omega)
  have hkinds : ∀ c ∈ chgF a b, 0 < c.kind := fun c h => (chg_mem.1 h).2.2
  obtain ⟨R, hR⟩ : ∃ R, chgF a b = R := ⟨_, rfl⟩
  simp only [hR] at HC hLen hbig hkinds
  clear hR
  obtain ⟨hxx, k, hk, hkc, hall⟩ := List.find?_eq_some_iff_getElem.1 hbig
  have hck : cc.kind ≤ 2 := by have : (cc.kind == 1 || cc.kind == 2) = true := hxx; simp at this; omega
  have HSM := Lib.hid (show ∀ i (h : i < R.length), i < k → R[i].kind > 2 from fun i h hik => by
    have h1 := hall i hik
    have h2 := hkinds _ (List.getElem_mem h)
    have h3 : (!(R[i].kind == 1 || R[i].kind == 2)) = true := h1
    simp at h3
    omega)
  have H1 := Lib.hid h1
  have HX := Lib.hid hx
  have HN := Lib.hid hn
  have HFA := Lib.hid hfa
  have HKC := Lib.hid hkc
  clear h1 h2 hf hbig hx hn hall hkinds hkc hxx hfa
  have HW := Lib.hid hW
  have HB := Lib.hid hbW
  clear hW hbW
  go_enter Tryz.func9, Tryz.ntmps9
  go_upto_region 2 with (go_at_call 19; refine HC.out.mono ?_; rintro e w1 ⟨v1, rfl, ho, hb⟩; have B1 := Lib.hid (HB.out.trans (hb.mono HB.out.size)); have D1 := Lib.hid (HW.out.under hb HW.out.lt); have R1 := Lib.hid (ChgAt.own ho); clear hb ho)
  obtain ⟨pp, cap, rfl, hcc⟩ := R1.out
  obtain ⟨bc, oc, rfl, lbc, gc⟩ := hcc (by omega)
  have GC := Lib.hid (show ∀ w', Below w.heap.size w w' → True from fun _ _ => trivial)
  clear GC
  have hBel1 := B1.out
  have lbc0 : bc < w1.heap.size := lbc
  have GC := Lib.hid (show ∀ w', Below w1.heap.size w1 w' → ∀ i (h : i < R.length), w'.cell? ⟨bc, oc + i * 4, none⟩ = some (.int .i64 R[i].kind) from fun w' hb i h => by
    have := gc i h 0 (by decide)
    rw [← hb.cell (p := ⟨bc, _, none⟩) lbc] at this
    simpa [Chg.cells] using this)
  have gc2 : ∀ w', Below w1.heap.size w1 w' → w'.cell? ⟨bc, oc + k * 4, none⟩ = some (.int .i64 cc.kind) ∧ w'.cell? ⟨bc, oc + k * 4 + 1, none⟩ = some (.string cc.mod) ∧ w'.cell? ⟨bc, oc + k * 4 + 2, none⟩ = some (.string cc.name) ∧ w'.cell? ⟨bc, oc + k * 4 + 3, none⟩ = some (.bool cc.ofType) := fun w' hb => by
    have x0 := gc k hk 0 (by decide)
    have x1 := gc k hk 1 (by decide)
    have x2 := gc k hk 2 (by decide)
    have x3 := gc k hk 3 (by decide)
    rw [HKC.out, ← hb.cell (p := ⟨bc, _, none⟩) lbc] at x0 x1 x2 x3
    simp [Chg.cells] at x0 x1 x2 x3
    exact ⟨x0, x1, x2, x3⟩
  have GC2 := Lib.hid gc2
  have HB1w := Lib.hid (H1.out.under (B1.out.mono hB))
  have hB1 : B ≤ w1.heap.size := Nat.le_trans hB B1.out.size
  clear hcc gc gc2 hBel1 R1 HC HW HB lbc
  go_wp2_with fail
  go_loopw [7] (fun v wk => ∃ i : Nat, v = .int .i64 i ∧ i ≤ k ∧ Below w1.heap.size w1 wk) (fun v _ => R.length - (intOf v).toNat)
  case atStart => exact ⟨0, rfl, Nat.zero_le _, Below.refl _ _⟩
  case round =>
    rename World => wi
    obtain ⟨i, rfl, hi, hb⟩ := hrel
    have HB1 := Lib.hid hb
    clear hb
    have hilt : i < R.length := by omega
    have hiI : (i : Int) < (R.length : Int) := by omega
    by_cases hik : i < k
    · obtain ⟨z, hz⟩ : ∃ z, R[i] = z := ⟨_, rfl⟩
      have x0 := GC.out wi HB1.out i hilt
      have hsm := HSM.out i hilt hik
      rw [hz] at x0 hsm
      have hgt : (z.kind > 2) := hsm
      have lb1 := Nat.lt_of_lt_of_le lbc0 HB1.out.size
      clear hz
      go_wp2_with fail
      exact ⟨⟨i + 1, by go_num, by omega, HB1.out⟩, by simp [intOf]; omega⟩
    obtain rfl : i = k := by omega
    obtain ⟨x0, x1, x2, x3⟩ := GC2.out wi HB1.out
    have lb1 := Nat.lt_of_lt_of_le lbc0 HB1.out.size
    have hng : ¬ (cc.kind > 2) := by omega
    go_upto_region 6 with fail
    clear x0 x1 x2 x3 lb1
    go_wp2_with fail
    go_loopw [8] (fun v wk => ∃ j : Nat, v = .int .i64 j ∧ j ≤ a.length ∧ Below w1.heap.size w1 wk ∧ ∀ i (h : i < a.length), i < j → (a[i].mod.toList == cc.mod.toList) = false) (fun v _ => a.length - (intOf v).toNat)
    case atStart => exact ⟨0, rfl, Nat.zero_le _, HB1.out, fun i _ hi => absurd hi (by omega)⟩
    case round =>
      rename World => w2
      obtain ⟨j, rfl, hj, hb, hall⟩ := hrel
      have HB2 := Lib.hid hb
      have HA2 := Lib.hid hall
      clear hb hall
      by_cases hjt : j < a.length
      rotate_left
      · exfalso
        have := find_none' (p := fun x => x.mod.toList == cc.mod.toList) (l := a) (fun i hi => HA2.out i hi (by omega))
        have h2 := HX.out
        rw [firstIface, this] at h2
        cases h2
      have hjI : (j : Int) < (a.length : Int) := by omega
      have hB2 : B ≤ w2.heap.size := Nat.le_trans hB1 HB2.out.size
      obtain ⟨y, hy⟩ : ∃ y, a[j] = y := ⟨_, rfl⟩
      obtain ⟨-, ba, oa, ta, tc, va, vc, rfl, hbaB, hT, hV, htc, hvc, m0, m1, m2, m3, m4⟩ := (HB1w.out.under (HB2.out.mono hB1)).elem hjt hy
      have lba : ba < w2.heap.size := by omega
      obtain ⟨x0, x1, x2, x3⟩ := GC2.out w2 HB2.out
      have lb2 := Nat.lt_of_lt_of_le lbc0 HB2.out.size
      obtain ⟨t, ht⟩ : ∃ t, (y.mod.toList == cc.mod.toList) = t := ⟨_, rfl⟩
      have HMT := Lib.hid ht
      have HY := Lib.hid hy
      have HT := Lib.hid hT
      have HV := Lib.hid hV
      have M0 := Lib.hid m0
      have M1 := Lib.hid m1
      have M2 := Lib.hid m2
      have M3 := Lib.hid m3
      have M4 := Lib.hid m4
      clear hy hT hV
      go_upto_region 9 with fail
      cases t
      · have hne : (y.mod.toList != cc.mod.toList) = true := by rw [bne, ht]; rfl
        go_quiet (fail)
        go_wp2_with fail
        exact ⟨⟨j + 1, by go_num, by omega, below_drewN HB2.out _, fun i hi hik => by
          by_cases e : i = j
          · subst e; rw [HY.out]; exact HMT.out
          · exact HA2.out i hi (by omega)⟩, by simp [intOf]; omega⟩
      have hne : (y.mod.toList != cc.mod.toList) = false := by rw [bne, ht]; rfl
      have hyx : y = x := by
        have h2 := find_first (p := fun x => x.mod.toList == cc.mod.toList) hjt (fun i hi => HA2.out i (by omega) hi) (by rw [HY.out]; exact HMT.out)
        have h3 := HX.out
        rw [firstIface, h2, HY.out] at h3
        exact Option.some.inj h3
      obtain rfl : x = y := hyx.symm
      go_quiet (fail)
      have hbq : Below w2.heap.size w2 (w2.drewN nq) := below_drewN (Below.refl _ _) nq
      generalize w2.drewN nq = w3 at hbq ⊢
      have HB3 := Lib.hid (HB2.out.trans (hbq.mono HB2.out.size))
      have HT3 := Lib.hid (HT.out.under (hbq.mono hB2))
      have HV3 := Lib.hid (HV.out.under (hbq.mono hB2))
      have lba3 := Nat.lt_of_lt_of_le lba hbq.size
      have M0 := Lib.hid ((hbq.cell (p := ⟨ba, _, none⟩) lba).trans M0.out)
      have M1 := Lib.hid ((hbq.cell (p := ⟨ba, _, none⟩) lba).trans M1.out)
      have M2 := Lib.hid ((hbq.cell (p := ⟨ba, _, none⟩) lba).trans M2.out)
      have M3 := Lib.hid ((hbq.cell (p := ⟨ba, _, none⟩) lba).trans M3.out)
      have M4 := Lib.hid ((hbq.cell (p := ⟨ba, _, none⟩) lba).trans M4.out)
      clear hbq hne ht x0 x1 x2 x3 m0 m1 m2 m3 m4 lb2 lba HT HV HB2
      obtain ⟨x0, x1, x2, x3⟩ := GC2.out w3 HB3.out
      have lb3 := Nat.lt_of_lt_of_le lbc0 HB3.out.size
      have hB3 : B ≤ w3.heap.size := Nat.le_trans hB1 HB3.out.size
      go_upto_region 11 with fail
      clear x0 x1 x2 x3 lb3
      have bl := Blk.new w3 #[.int .i64 1, .string { data := #[109] }, .string cc.name, .int .i64 0, .string { data := #[] }, .int .i64 0, .string { data := #[] }, .string { data := #[] }, .slice none 0 0, .slice none 0 0] 61
      have hb4 := (Below.refl w3.heap.size w3).alloc (Nat.le_refl _) (.cells #[.int .i64 1, .string { data := #[109] }, .string cc.name, .int .i64 0, .string { data := #[] }, .int .i64 0, .string { data := #[] }, .string { data := #[] }, .slice none 0 0, .slice none 0 0] 61)
      generalize w3.alloc (.cells #[.int .i64 1, .string { data := #[109] }, .string cc.name, .int .i64 0, .string { data := #[] }, .int .i64 0, .string { data := #[] }, .string { data := #[] }, .slice none 0 0, .slice none 0 0] 61) = w4 at bl hb4 ⊢
      generalize hg9 : w3.heap.size = g9 at bl ⊢
      have BL4 := Lib.hid bl
      have HB4 := Lib.hid (HB3.out.trans (hb4.mono HB3.out.size))
      have HT4 := Lib.hid (HT3.out.under (hb4.mono hB3))
      have HV4 := Lib.hid (HV3.out.under (hb4.mono hB3))
      have lba := Nat.lt_of_lt_of_le lba3 hb4.size
      have M0 := Lib.hid ((hb4.cell (p := ⟨ba, _, none⟩) lba3).trans M0.out)
      have M1 := Lib.hid ((hb4.cell (p := ⟨ba, _, none⟩) lba3).trans M1.out)
      have M2 := Lib.hid ((hb4.cell (p := ⟨ba, _, none⟩) lba3).trans M2.out)
      have m3 := (hb4.cell (p := ⟨ba, _, none⟩) lba3).trans M3.out
      have m4 := (hb4.cell (p := ⟨ba, _, none⟩) lba3).trans M4.out
      have hg9w : w1.heap.size ≤ g9 := by rw [← hg9]; exact HB3.out.size
      have HG9 := Lib.hid hg9w
      clear bl hb4 HT3 HV3 M3 M4 lba3 HB3 hB3 hg9 hg9w
      obtain ⟨x0, x1, x2, x3⟩ := GC2.out w4 HB4.out
      have lb4 := Nat.lt_of_lt_of_le lbc0 HB4.out.size
      have hB4 : B ≤ w4.heap.size := Nat.le_trans hB1 HB4.out.size
      obtain ⟨j2, hj2, hjn, ej⟩ := ofN_some HN.out
      have hj2I : (j2 : Int) < ((selF x cc.ofType).length : Int) := by omega
      have hle : (selF x cc.ofType).length ≤ 200 := by
        have := List.all_eq_true.1 HFA.out x (by rw [← HY.out]; exact List.getElem_mem hjt)
        simp only [fewX, Bool.and_eq_true, decide_eq_true_eq] at this
        rw [selF]; split
        · exact this.1
        · exact this.2.1
      have EJ := Lib.hid ej
      have HJN := Lib.hid hjn
      have HLE := Lib.hid hle
      clear ej hjn hle
      obtain ⟨o, ho⟩ : ∃ o, cc.ofType = o := ⟨_, rfl⟩
      have HOO := Lib.hid ho
      rw [ho] at x3 hj2 hj2I
      go_upto_region 12 with fail
      cases o
      · go_upto_region 15 with fail
        clear m3 m4
        have bl := BL4.out
        have hb5 := HB4.out
        have M0 := Lib.hid M0.out
        have ht5 := HV4.out
        have m0 := M0.out
        have m1 := M1.out
        have m2 := M2.out
        have x2 := x2
        have lba5 := lba
        generalize w4 = W5 at bl hb5 ht5 m0 m1 m2 x2 lba5 hB4 lb4 ⊢
        clear x0 x1 x3
        have BL5 := Lib.hid bl
        have HB5 := Lib.hid hb5
        have HT5 := Lib.hid (show NmsAt W5 B va (selF x false) from ht5)
        have M0 := Lib.hid m0
        have M1 := Lib.hid m1
        have M2 := Lib.hid m2
        clear bl hb5 ht5 m0 m1 m2
        have HOF := refOfN_c va vc B (selF x false) cc.name W5 HT5.out hB4 (by have := HLE.out; rw [ho] at this; omega)
        rw [show ofN (selF x false) cc.name = (j2 : Int) by have := EJ.out; rw [ho] at this; exact this] at HOF
        have HOF := Lib.hid HOF
        have hjn : (selF x false)[j2] = n := by have := HJN.out; simp only [ho] at this; exact this
        obtain ⟨-, bn, pn, na, nc, sa, sc, hra, hbn, htn, -, e1, e2, e3, e4, e5, e6, e7⟩ := HT5.out.elem hj2 hjn
        obtain rfl := hra
        have hbn5 : bn < W5.heap.size := by omega
        have hj20 : (0 : Int) ≤ (j2 : Int) := by omega
        have hge : ((j2 : Int) ≥ 0) := hj20
        have hj2J : (j2 : Int) < (x.vals.length : Int) := hj2I
        have TN5 := Lib.hid htn
        clear htn hjn
        go_upto_region 16 with (go_at_call 20; refine HOF.out.mono ?_; rintro e wr ⟨rfl, hwr⟩; obtain rfl := hwr.symm)
        clear x2 lb4
        have z3 := BL5.out.cell 3
        have y3 := BL5.out.free 3
        have z4 := BL5.out.cell 4
        have y4 := BL5.out.free 4
        have z5 := BL5.out.cell 5
        have y5 := BL5.out.free 5
        have z6 := BL5.out.cell 6
        have y6 := BL5.out.free 6
        have z7 := BL5.out.cell 7
        have y7 := BL5.out.free 7
        have z8 := BL5.out.cell 8
        have y8 := BL5.out.free 8
        have z9 := BL5.out.cell 9
        have y9 := BL5.out.free 9
        simp at z3 z4 z5 z6 z7 z8 z9
        have ll := BL5.out.lt
        go_upto_region 18 with fail
        have bl : Blk (((((((W5.setCell ⟨g9, 3, none⟩ (.int .i64 n.ty.kind)).setCell ⟨g9, 4, none⟩ (.string n.ty.pkg)).setCell ⟨g9, 5, none⟩ (.int .i64 n.ty.major)).setCell ⟨g9, 6, none⟩ (.string n.ty.mod)).setCell ⟨g9, 7, none⟩ (.string n.ty.name)).setCell ⟨g9, 8, none⟩ (.slice na n.ty.names.length nc)).setCell ⟨g9, 9, none⟩ (.slice sa n.ty.subs.length sc)) g9 #[.int .i64 1, .string { data := #[109] }, .string cc.name, .int .i64 n.ty.kind, .string n.ty.pkg, .int .i64 n.ty.major, .string n.ty.mod, .string n.ty.name, .slice na n.ty.names.length nc, .slice sa n.ty.subs.length sc] 61 := by have := (((((((BL5.out.set 3 (.int .i64 n.ty.kind)).set 4 (.string n.ty.pkg)).set 5 (.int .i64 n.ty.major)).set 6 (.string n.ty.mod)).set 7 (.string n.ty.name)).set 8 (.slice na n.ty.names.length nc)).set 9 (.slice sa n.ty.subs.length sc)); simpa using this
        have hs : Below w1.heap.size W5 (((((((W5.setCell ⟨g9, 3, none⟩ (.int .i64 n.ty.kind)).setCell ⟨g9, 4, none⟩ (.string n.ty.pkg)).setCell ⟨g9, 5, none⟩ (.int .i64 n.ty.major)).setCell ⟨g9, 6, none⟩ (.string n.ty.mod)).setCell ⟨g9, 7, none⟩ (.string n.ty.name)).setCell ⟨g9, 8, none⟩ (.slice na n.ty.names.length nc)).setCell ⟨g9, 9, none⟩ (.slice sa n.ty.subs.length sc)) := ((((((((Below.refl w1.heap.size W5).setCell (p := ⟨g9, 3, none⟩) HG9.out (.int .i64 n.ty.kind)).setCell (p := ⟨g9, 4, none⟩) HG9.out (.string n.ty.pkg)).setCell (p := ⟨g9, 5, none⟩) HG9.out (.int .i64 n.ty.major)).setCell (p := ⟨g9, 6, none⟩) HG9.out (.string n.ty.mod)).setCell (p := ⟨g9, 7, none⟩) HG9.out (.string n.ty.name)).setCell (p := ⟨g9, 8, none⟩) HG9.out (.slice na n.ty.names.length nc)).setCell (p := ⟨g9, 9, none⟩) HG9.out (.slice sa n.ty.subs.length sc))
        have hz : (((((((W5.setCell ⟨g9, 3, none⟩ (.int .i64 n.ty.kind)).setCell ⟨g9, 4, none⟩ (.string n.ty.pkg)).setCell ⟨g9, 5, none⟩ (.int .i64 n.ty.major)).setCell ⟨g9, 6, none⟩ (.string n.ty.mod)).setCell ⟨g9, 7, none⟩ (.string n.ty.name)).setCell ⟨g9, 8, none⟩ (.slice na n.ty.names.length nc)).setCell ⟨g9, 9, none⟩ (.slice sa n.ty.subs.length sc)).heap.size = W5.heap.size := by simp [World.setCell]
        generalize (((((((W5.setCell ⟨g9, 3, none⟩ (.int .i64 n.ty.kind)).setCell ⟨g9, 4, none⟩ (.string n.ty.pkg)).setCell ⟨g9, 5, none⟩ (.int .i64 n.ty.major)).setCell ⟨g9, 6, none⟩ (.string n.ty.mod)).setCell ⟨g9, 7, none⟩ (.string n.ty.name)).setCell ⟨g9, 8, none⟩ (.slice na n.ty.names.length nc)).setCell ⟨g9, 9, none⟩ (.slice sa n.ty.subs.length sc)) = W at bl hs hz ⊢
        clear ll e1 e2 e3 e4 e5 e6 e7 z3 y3 z4 y4 z5 y5 z6 y6 z7 y7 z8 y8 z9 y9
        have hbaw : ba < w1.heap.size := by omega
        have m0 := (hs.cell (p := ⟨ba, _, none⟩) hbaw).trans M0.out
        have m1 := (hs.cell (p := ⟨ba, _, none⟩) hbaw).trans M1.out
        have m2 := (hs.cell (p := ⟨ba, _, none⟩) hbaw).trans M2.out
        have hb8 := HB5.out.trans hs
        have M0 := Lib.hid m0
        have M1 := Lib.hid m1
        have M2 := Lib.hid m2
        have BL := Lib.hid bl
        have D8 := Lib.hid (D1.out.under hb8 D1.out.lt)
        have B8 := Lib.hid (B1.out.trans (hb8.mono B1.out.size))
        have TN := Lib.hid (TN5.out.keep (w' := W) fun p hp => hs.cell (by omega))
        have lba : ba < W.heap.size := by rw [hz]; exact lba5
        clear bl hs hz hbaw hb8 BL5 HB5 HT5 TN5
        refine wp_region_until [(16, fun w' => w'.cell? ⟨ba, oa + j * 5, none⟩ = some (.string x.pkg) ∧ w'.cell? ⟨ba, oa + j * 5 + 1, none⟩ = some (.int .i64 x.major) ∧ w'.cell? ⟨ba, oa + j * 5 + 2, none⟩ = some (.string x.mod)), (18, fun w' => Blk w' g9 #[.int .i64 1, .string { data := #[109] }, .string cc.name, .int .i64 n.ty.kind, .string n.ty.pkg, .int .i64 n.ty.major, .string n.ty.mod, .string n.ty.name, .slice na n.ty.names.length nc, .slice sa n.ty.subs.length sc] 61)] (by kernel_rfl) (Until.cons (fun _ => ⟨m0, m1, m2⟩) (Until.cons (fun _ => BL.out.drew) Until.nil)) (fun hU => ?_)
        refine AnyU.take (i := 0) (v := ?_) rfl (by kernel_rfl) (by kernel_rfl) (by kernel_rfl) (fun _ _ _ h => h) (by kernel_rfl) (by assumption) (by rfl) ?_ (fun hV => ?_)
        rotate_left 1
        · (intro wq; go_simp; try with_reducible rfl)
        clear hU
        have hU := hV
        clear hV
        try simp only [Act.put, List.getElem_toArray, List.getElem_cons_zero, List.getElem_cons_succ, List.setIfInBounds_toArray, List.set_cons_zero, List.set_cons_succ]
        refine AnyU.take (i := 1) (v := ?_) rfl (by kernel_rfl) (by kernel_rfl) (by kernel_rfl) (fun _ _ _ h => h) (by kernel_rfl) (by assumption) (by rfl) ?_ (fun hV => ?_)
        rotate_left 1
        · (intro wq; go_simp; try with_reducible rfl)
        clear hU
        have hU := hV
        clear hV
        try simp only [Act.put, List.getElem_toArray, List.getElem_cons_zero, List.getElem_cons_succ, List.setIfInBounds_toArray, List.set_cons_zero, List.set_cons_succ]
        refine AnyU.take (i := 2) (v := ?_) rfl (by kernel_rfl) (by kernel_rfl) (by kernel_rfl) (fun _ _ _ h => h) (by kernel_rfl) (by assumption) (by rfl) ?_ (fun hV => ?_)
        rotate_left 1
        · (intro wq; go_simp; try with_reducible rfl)
        clear hU
        have hU := hV
        clear hV
        try simp only [Act.put, List.getElem_toArray, List.getElem_cons_zero, List.getElem_cons_succ, List.setIfInBounds_toArray, List.set_cons_zero, List.set_cons_succ]
        refine AnyU.take (i := 3) (v := ?_) rfl (by kernel_rfl) (by kernel_rfl) (by kernel_rfl) (fun _ _ _ h => h) (by kernel_rfl) (by assumption) (by rfl) ?_ (fun hV => ?_)
        rotate_left 1
        · (intro wq; go_simp; try with_reducible rfl)
        clear hU
        have hU := hV
        clear hV
        try simp only [Act.put, List.getElem_toArray, List.getElem_cons_zero, List.getElem_cons_succ, List.setIfInBounds_toArray, List.set_cons_zero, List.set_cons_succ]
        refine AnyU.loadc (i := 4) (d := 16) [15, 16] (Si := fun w' => w'.cell? ⟨ba, oa + j * 5, none⟩ = some (.string x.pkg) ∧ w'.cell? ⟨ba, oa + j * 5 + 1, none⟩ = some (.int .i64 x.major) ∧ w'.cell? ⟨ba, oa + j * 5 + 2, none⟩ = some (.string x.mod)) (v := ?_) rfl (by kernel_rfl) (by kernel_rfl) (by kernel_rfl) (fun _ _ _ h => h) (by kernel_rfl) (by assumption) (by kernel_rfl) rfl (by simp) (by rfl) ?_ (fun hV => ?_)
        rotate_left 1
        · (intro wq hq; obtain ⟨u, -, -⟩ := hq; go_simp; try with_reducible rfl)
        clear hU
        have hU := hV
        clear hV
        try simp only [Act.put, List.getElem_toArray, List.getElem_cons_zero, List.getElem_cons_succ, List.setIfInBounds_toArray, List.set_cons_zero, List.set_cons_succ]
        refine AnyU.take (i := 5) (v := ?_) rfl (by kernel_rfl) (by kernel_rfl) (by kernel_rfl) (fun _ _ _ h => h) (by kernel_rfl) (by assumption) (by rfl) ?_ (fun hV => ?_)
        rotate_left 1
        · (intro wq; go_simp; try with_reducible rfl)
        clear hU
        have hU := hV
        clear hV
        try simp only [Act.put, List.getElem_toArray, List.getElem_cons_zero, List.getElem_cons_succ, List.setIfInBounds_toArray, List.set_cons_zero, List.set_cons_succ]
        refine AnyU.take (i := 6) (v := ?_) rfl (by kernel_rfl) (by kernel_rfl) (by kernel_rfl) (fun _ _ _ h => h) (by kernel_rfl) (by assumption) (by rfl) ?_ (fun hV => ?_)
        rotate_left 1
        · (intro wq; go_simp; try with_reducible rfl)
        clear hU
        have hU := hV
        clear hV
        try simp only [Act.put, List.getElem_toArray, List.getElem_cons_zero, List.getElem_cons_succ, List.setIfInBounds_toArray, List.set_cons_zero, List.set_cons_succ]
        refine AnyU.take (i := 7) (v := ?_) rfl (by kernel_rfl) (by kernel_rfl) (by kernel_rfl) (fun _ _ _ h => h) (by kernel_rfl) (by assumption) (by rfl) ?_ (fun hV => ?_)
        rotate_left 1
        · (intro wq; go_simp; try with_reducible rfl)
        clear hU
        have hU := hV
        clear hV
        try simp only [Act.put, List.getElem_toArray, List.getElem_cons_zero, List.getElem_cons_succ, List.setIfInBounds_toArray, List.set_cons_zero, List.set_cons_succ]
        refine AnyU.take (i := 8) (v := ?_) rfl (by kernel_rfl) (by kernel_rfl) (by kernel_rfl) (fun _ _ _ h => h) (by kernel_rfl) (by assumption) (by rfl) ?_ (fun hV => ?_)
        rotate_left 1
        · (intro wq; go_simp; try with_reducible rfl)
        clear hU
        have hU := hV
        clear hV
        try simp only [Act.put, List.getElem_toArray, List.getElem_cons_zero, List.getElem_cons_succ, List.setIfInBounds_toArray, List.set_cons_zero, List.set_cons_succ]
        refine AnyU.loadc (i := 9) (d := 16) [15, 16] (Si := fun w' => w'.cell? ⟨ba, oa + j * 5, none⟩ = some (.string x.pkg) ∧ w'.cell? ⟨ba, oa + j * 5 + 1, none⟩ = some (.int .i64 x.major) ∧ w'.cell? ⟨ba, oa + j * 5 + 2, none⟩ = some (.string x.mod)) (v := ?_) rfl (by kernel_rfl) (by kernel_rfl) (by kernel_rfl) (fun _ _ _ h => h) (by kernel_rfl) (by assumption) (by kernel_rfl) rfl (by simp) (by rfl) ?_ (fun hV => ?_)
        rotate_left 1
        · (intro wq hq; obtain ⟨-, u, -⟩ := hq; go_simp; try with_reducible rfl)
        clear hU
        have hU := hV
        clear hV
        try simp only [Act.put, List.getElem_toArray, List.getElem_cons_zero, List.getElem_cons_succ, List.setIfInBounds_toArray, List.set_cons_zero, List.set_cons_succ]
        refine AnyU.take (i := 10) (v := ?_) rfl (by kernel_rfl) (by kernel_rfl) (by kernel_rfl) (fun _ _ _ h => h) (by kernel_rfl) (by assumption) (by rfl) ?_ (fun hV => ?_)
        rotate_left 1
        · (intro wq; go_simp; try with_reducible rfl)
        clear hU
        have hU := hV
        clear hV
        try simp only [Act.put, List.getElem_toArray, List.getElem_cons_zero, List.getElem_cons_succ, List.setIfInBounds_toArray, List.set_cons_zero, List.set_cons_succ]
        refine AnyU.take (i := 11) (v := ?_) rfl (by kernel_rfl) (by kernel_rfl) (by kernel_rfl) (fun _ _ _ h => h) (by kernel_rfl) (by assumption) (by rfl) ?_ (fun hV => ?_)
        rotate_left 1
        · (intro wq; go_simp; try with_reducible rfl)
        clear hU
        have hU := hV
        clear hV
        try simp only [Act.put, List.getElem_toArray, List.getElem_cons_zero, List.getElem_cons_succ, List.setIfInBounds_toArray, List.set_cons_zero, List.set_cons_succ]
        refine AnyU.take (i := 12) (v := ?_) rfl (by kernel_rfl) (by kernel_rfl) (by kernel_rfl) (fun _ _ _ h => h) (by kernel_rfl) (by assumption) (by rfl) ?_ (fun hV => ?_)
        rotate_left 1
        · (intro wq; go_simp; try with_reducible rfl)
        clear hU
        have hU := hV
        clear hV
        try simp only [Act.put, List.getElem_toArray, List.getElem_cons_zero, List.getElem_cons_succ, List.setIfInBounds_toArray, List.set_cons_zero, List.set_cons_succ]
        refine AnyU.take (i := 13) (v := ?_) rfl (by kernel_rfl) (by kernel_rfl) (by kernel_rfl) (fun _ _ _ h => h) (by kernel_rfl) (by assumption) (by rfl) ?_ (fun hV => ?_)
        rotate_left 1
        · (intro wq; go_simp; try with_reducible rfl)
        clear hU
        have hU := hV
        clear hV
        try simp only [Act.put, List.getElem_toArray, List.getElem_cons_zero, List.getElem_cons_succ, List.setIfInBounds_toArray, List.set_cons_zero, List.set_cons_succ]
        refine AnyU.loadc (i := 14) (d := 16) [15, 16] (Si := fun w' => w'.cell? ⟨ba, oa + j * 5, none⟩ = some (.string x.pkg) ∧ w'.cell? ⟨ba, oa + j * 5 + 1, none⟩ = some (.int .i64 x.major) ∧ w'.cell? ⟨ba, oa + j * 5 + 2, none⟩ = some (.string x.mod)) (v := ?_) rfl (by kernel_rfl) (by kernel_rfl) (by kernel_rfl) (fun _ _ _ h => h) (by kernel_rfl) (by assumption) (by kernel_rfl) rfl (by simp) (by rfl) ?_ (fun hV => ?_)
        rotate_left 1
        · (intro wq hq; obtain ⟨-, -, u⟩ := hq; go_simp; try with_reducible rfl)
        clear hU
        have hU := hV
        clear hV
        try simp only [Act.put, List.getElem_toArray, List.getElem_cons_zero, List.getElem_cons_succ, List.setIfInBounds_toArray, List.set_cons_zero, List.set_cons_succ]
        refine AnyU.take (i := 15) (v := ?_) rfl (by kernel_rfl) (by kernel_rfl) (by kernel_rfl) (fun _ _ _ h => h) (by kernel_rfl) (by assumption) (by rfl) ?_ (fun hV => ?_)
        rotate_left 1
        · (intro wq; go_simp; try with_reducible rfl)
        clear hU
        have hU := hV
        clear hV
        try simp only [Act.put, List.getElem_toArray, List.getElem_cons_zero, List.getElem_cons_succ, List.setIfInBounds_toArray, List.set_cons_zero, List.set_cons_succ]
        refine AnyU.loadc (i := 17) (d := 18) [18] (Si := fun w' => Blk w' g9 #[.int .i64 1, .string { data := #[109] }, .string cc.name, .int .i64 n.ty.kind, .string n.ty.pkg, .int .i64 n.ty.major, .string n.ty.mod, .string n.ty.name, .slice na n.ty.names.length nc, .slice sa n.ty.subs.length sc] 61) (v := ?_) rfl (by kernel_rfl) (by kernel_rfl) (by kernel_rfl) (fun _ _ _ h => h) (by kernel_rfl) (by assumption) (by kernel_rfl) rfl (by simp) (by rfl) ?_ (fun hV => ?_)
        rotate_left 1
        · (intro wq hq; have u0 := hq.cell 0; have u1 := hq.cell 1; have u2 := hq.cell 2; have u3 := hq.cell 3; have u4 := hq.cell 4; have u5 := hq.cell 5; have u6 := hq.cell 6; have u7 := hq.cell 7; have u8 := hq.cell 8; have u9 := hq.cell 9; simp at u0 u1 u2 u3 u4 u5 u6 u7 u8 u9; go_simp; try with_reducible rfl)
        clear hU
        have hU := hV
        clear hV
        try simp only [Act.put, List.getElem_toArray, List.getElem_cons_zero, List.getElem_cons_succ, List.setIfInBounds_toArray, List.set_cons_zero, List.set_cons_succ]
        refine AnyU.ready2 (i := 16) (j := 18) (by kernel_rfl) (AnyU.one rfl fun K hK => ?_) (AnyU.one rfl fun K hK => ?_)
        · go_simp
          obtain ⟨hX, hbX, hsX⟩ := laidX W #[.string x.pkg, .int .i64 x.major, .string x.mod, .string { data := #[109] }] 63
          generalize hX3 : ((W.alloc (.cells #[.string x.pkg, .int .i64 x.major, .string x.mod, .string { data := #[109] }] 63)).drew) = X3 at hX hbX hsX ⊢
          clear hX3
          have m0 := (hX.cell (p := ⟨ba, _, none⟩) lba).trans M0.out
          have m1 := (hX.cell (p := ⟨ba, _, none⟩) lba).trans M1.out
          have m2 := (hX.cell (p := ⟨ba, _, none⟩) lba).trans M2.out
          have bl := BL.out.under hX BL.out.lt
          refine hK.out _ _ (Until.cons (fun h => absurd h (by decide)) (Until.cons (fun _ => bl) Until.nil)) (fun hV => ?_)
          clear hK K
          clear hU
          have hU := hV
          clear hV
          try simp only [Act.put, List.getElem_toArray, List.getElem_cons_zero, List.getElem_cons_succ, List.setIfInBounds_toArray, List.set_cons_zero, List.set_cons_succ]
          refine AnyU.ready1 (i := 18) (by kernel_rfl) (AnyU.one rfl fun K hK => ?_)
          go_simp
          have hY := (Below.refl X3.heap.size X3).alloc (Nat.le_refl _) (.cells #[.int .i64 1, .string { data := #[109] }, .string cc.name, .int .i64 n.ty.kind, .string n.ty.pkg, .int .i64 n.ty.major, .string n.ty.mod, .string n.ty.name, .slice na n.ty.names.length nc, .slice sa n.ty.subs.length sc] 61)
          have hbY := Blk.new X3 #[.int .i64 1, .string { data := #[109] }, .string cc.name, .int .i64 n.ty.kind, .string n.ty.pkg, .int .i64 n.ty.major, .string n.ty.mod, .string n.ty.name, .slice na n.ty.names.length nc, .slice sa n.ty.subs.length sc] 61
          generalize hX4 : (X3.alloc (.cells #[.int .i64 1, .string { data := #[109] }, .string cc.name, .int .i64 n.ty.kind, .string n.ty.pkg, .int .i64 n.ty.major, .string n.ty.mod, .string n.ty.name, .slice na n.ty.names.length nc, .slice sa n.ty.subs.length sc] 61)) = X4 at hY hbY ⊢
          clear hX4
          rw [hsX] at hbY
          have hbX := hbX.under hY hbX.lt
          have d4 := (D8.out.under hX D8.out.lt).under hY (D8.out.under hX D8.out.lt).lt
          have hXY : Below W.heap.size W X4 := hX.trans (hY.mono hX.size)
          refine hK.out _ _ (Until.off (by kernel_rfl)) (fun hV => ?_)
          clear hK K
          clear hU
          have hU := hV
          clear hV
          try simp only [Act.put, List.getElem_toArray, List.getElem_cons_zero, List.getElem_cons_succ, List.setIfInBounds_toArray, List.set_cons_zero, List.set_cons_succ]
          refine AnyU.take (i := 19) (v := ?_) rfl (by kernel_rfl) (by kernel_rfl) (by kernel_rfl) (fun _ _ _ h => h) (by kernel_rfl) (by assumption) (by rfl) ?_ (fun hV => ?_)
          rotate_left 1
          · (intro wq; go_simp; try with_reducible rfl)
          clear hU
          have hU := hV
          clear hV
          try simp only [Act.put, List.getElem_toArray, List.getElem_cons_zero, List.getElem_cons_succ, List.setIfInBounds_toArray, List.set_cons_zero, List.set_cons_succ]
          have d0 := d4.cell 0
          have d1 := d4.cell 1
          simp at d0 d1
          have f0 := d4.free 0
          have f1 := d4.free 1
          have ld := d4.lt
          refine AnyU.ready1 (i := 20) (by kernel_rfl) (AnyU.one rfl fun K hK => ?_)
          go_simp
          have dz : Blk ((X4.setCell ⟨w.heap.size, 0, none⟩ (.slice (some ⟨W.heap.size, 0, none⟩) 1 1)).setCell ⟨w.heap.size, 1, none⟩ (.slice (some ⟨W.heap.size + 1, 0, none⟩) 1 1)) w.heap.size #[(.slice (some ⟨W.heap.size, 0, none⟩) 1 1), (.slice (some ⟨W.heap.size + 1, 0, none⟩) 1 1)] 28 := by have := (d4.set 0 (.slice (some ⟨W.heap.size, 0, none⟩) 1 1)).set 1 (.slice (some ⟨W.heap.size + 1, 0, none⟩) 1 1); simpa using this
          have hn1 : W.heap.size ≠ w.heap.size := fun e => by have := D8.out.lt; omega
          have hn2 : W.heap.size + 1 ≠ w.heap.size := fun e => by have := D8.out.lt; omega
          have f1 := (hbX.far ⟨w.heap.size, 0, none⟩ (.slice (some ⟨W.heap.size, 0, none⟩) 1 1) hn1).far ⟨w.heap.size, 1, none⟩ (.slice (some ⟨W.heap.size + 1, 0, none⟩) 1 1) hn1
          have f2 := (hbY.far ⟨w.heap.size, 0, none⟩ (.slice (some ⟨W.heap.size, 0, none⟩) 1 1) hn2).far ⟨w.heap.size, 1, none⟩ (.slice (some ⟨W.heap.size + 1, 0, none⟩) 1 1) hn2
          have fbW : Below w.heap.size W ((X4.setCell ⟨w.heap.size, 0, none⟩ (.slice (some ⟨W.heap.size, 0, none⟩) 1 1)).setCell ⟨w.heap.size, 1, none⟩ (.slice (some ⟨W.heap.size + 1, 0, none⟩) 1 1)) := ((hXY.mono B8.out.size).setCell (p := ⟨w.heap.size, 0, none⟩) (Nat.le_refl _) _).setCell (p := ⟨w.heap.size, 1, none⟩) (Nat.le_refl _) _
          have fb := B8.out.trans fbW
          generalize ((X4.setCell ⟨w.heap.size, 0, none⟩ (.slice (some ⟨W.heap.size, 0, none⟩) 1 1)).setCell ⟨w.heap.size, 1, none⟩ (.slice (some ⟨W.heap.size + 1, 0, none⟩) 1 1)) = Wf at dz f1 f2 fb fbW ⊢
          refine hK.out _ _ (Until.off (by kernel_rfl)) (fun hV => ?_)
          clear hK K
          clear hU
          have hU := hV
          clear hV
          try simp only [Act.put, List.getElem_toArray, List.getElem_cons_zero, List.getElem_cons_succ, List.setIfInBounds_toArray, List.set_cons_zero, List.set_cons_succ]
          refine AnyU.take (i := 21) (v := ?_) rfl (by kernel_rfl) (by kernel_rfl) (by kernel_rfl) (fun _ _ _ h => h) (by kernel_rfl) (by assumption) (by rfl) ?_ (fun hV => ?_)
          rotate_left 1
          · (intro wq; go_simp; try with_reducible rfl)
          clear hU
          have hU := hV
          clear hV
          try simp only [Act.put, List.getElem_toArray, List.getElem_cons_zero, List.getElem_cons_succ, List.setIfInBounds_toArray, List.set_cons_zero, List.set_cons_succ]
          refine AnyU.done (by kernel_rfl) ?_
          clear hU d0 d1 ld
          have r0 := dz.cell 0
          have r1 := dz.cell 1
          simp at r0 r1
          go_wp2_with fail
          refine bodyPost_ret (by simp [results, Tryz.results9, go_sem, r0, r1, dz.lt]; try rfl) rfl ?_
          refine ⟨⟨_, rfl, W.heap.size, (W.heap.size + 1), na, nc, sa, sc, rfl, f1, ?_, ?_⟩, fb⟩
          · show Blk Wf _ #[.int .i64 (if cc.ofType = true then 2 else 1), _, _, _, _, _, _, _, _, _] _
            rw [HOO.out]
            exact f2
          · exact ((TN.out.under (fbW.mono hB)).mono (Nat.le_trans hB fb.size))
        · go_simp
          obtain ⟨hX, hbX, hsX⟩ := laidX W #[.int .i64 1, .string { data := #[109] }, .string cc.name, .int .i64 n.ty.kind, .string n.ty.pkg, .int .i64 n.ty.major, .string n.ty.mod, .string n.ty.name, .slice na n.ty.names.length nc, .slice sa n.ty.subs.length sc] 61
          generalize hX3 : ((W.alloc (.cells #[.int .i64 1, .string { data := #[109] }, .string cc.name, .int .i64 n.ty.kind, .string n.ty.pkg, .int .i64 n.ty.major, .string n.ty.mod, .string n.ty.name, .slice na n.ty.names.length nc, .slice sa n.ty.subs.length sc] 61)).drew) = X3 at hX hbX hsX ⊢
          clear hX3
          have m0 := (hX.cell (p := ⟨ba, _, none⟩) lba).trans M0.out
          have m1 := (hX.cell (p := ⟨ba, _, none⟩) lba).trans M1.out
          have m2 := (hX.cell (p := ⟨ba, _, none⟩) lba).trans M2.out
          have bl := BL.out.under hX BL.out.lt
          refine hK.out _ _ (Until.cons (fun _ => ⟨m0, m1, m2⟩) (Until.cons (fun h => absurd h (by decide)) Until.nil)) (fun hV => ?_)
          clear hK K
          clear hU
          have hU := hV
          clear hV
          try simp only [Act.put, List.getElem_toArray, List.getElem_cons_zero, List.getElem_cons_succ, List.setIfInBounds_toArray, List.set_cons_zero, List.set_cons_succ]
          refine AnyU.ready1 (i := 16) (by kernel_rfl) (AnyU.one rfl fun K hK => ?_)
          go_simp
          have hY := (Below.refl X3.heap.size X3).alloc (Nat.le_refl _) (.cells #[.string x.pkg, .int .i64 x.major, .string x.mod, .string { data := #[109] }] 63)
          have hbY := Blk.new X3 #[.string x.pkg, .int .i64 x.major, .string x.mod, .string { data := #[109] }] 63
          generalize hX4 : (X3.alloc (.cells #[.string x.pkg, .int .i64 x.major, .string x.mod, .string { data := #[109] }] 63)) = X4 at hY hbY ⊢
          clear hX4
          rw [hsX] at hbY
          have hbX := hbX.under hY hbX.lt
          have d4 := (D8.out.under hX D8.out.lt).under hY (D8.out.under hX D8.out.lt).lt
          have hXY : Below W.heap.size W X4 := hX.trans (hY.mono hX.size)
          refine hK.out _ _ (Until.off (by kernel_rfl)) (fun hV => ?_)
          clear hK K
          clear hU
          have hU := hV
          clear hV
          try simp only [Act.put, List.getElem_toArray, List.getElem_cons_zero, List.getElem_cons_succ, List.setIfInBounds_toArray, List.set_cons_zero, List.set_cons_succ]
          refine AnyU.take (i := 19) (v := ?_) rfl (by kernel_rfl) (by kernel_rfl) (by kernel_rfl) (fun _ _ _ h => h) (by kernel_rfl) (by assumption) (by rfl) ?_ (fun hV => ?_)
          rotate_left 1
          · (intro wq; go_simp; try with_reducible rfl)
          clear hU
          have hU := hV
          clear hV
          try simp only [Act.put, List.getElem_toArray, List.getElem_cons_zero, List.getElem_cons_succ, List.setIfInBounds_toArray, List.set_cons_zero, List.set_cons_succ]
          have d0 := d4.cell 0
          have d1 := d4.cell 1
          simp at d0 d1
          have f0 := d4.free 0
          have f1 := d4.free 1
          have ld := d4.lt
          refine AnyU.ready1 (i := 20) (by kernel_rfl) (AnyU.one rfl fun K hK => ?_)
          go_simp
          have dz : Blk ((X4.setCell ⟨w.heap.size, 0, none⟩ (.slice (some ⟨W.heap.size + 1, 0, none⟩) 1 1)).setCell ⟨w.heap.size, 1, none⟩ (.slice (some ⟨W.heap.size, 0, none⟩) 1 1)) w.heap.size #[(.slice (some ⟨W.heap.size + 1, 0, none⟩) 1 1), (.slice (some ⟨W.heap.size, 0, none⟩) 1 1)] 28 := by have := (d4.set 0 (.slice (some ⟨W.heap.size + 1, 0, none⟩) 1 1)).set 1 (.slice (some ⟨W.heap.size, 0, none⟩) 1 1); simpa using this
          have hn1 : W.heap.size ≠ w.heap.size := fun e => by have := D8.out.lt; omega
          have hn2 : W.heap.size + 1 ≠ w.heap.size := fun e => by have := D8.out.lt; omega
          have f1 := (hbY.far ⟨w.heap.size, 0, none⟩ (.slice (some ⟨W.heap.size + 1, 0, none⟩) 1 1) hn2).far ⟨w.heap.size, 1, none⟩ (.slice (some ⟨W.heap.size, 0, none⟩) 1 1) hn2
          have f2 := (hbX.far ⟨w.heap.size, 0, none⟩ (.slice (some ⟨W.heap.size + 1, 0, none⟩) 1 1) hn1).far ⟨w.heap.size, 1, none⟩ (.slice (some ⟨W.heap.size, 0, none⟩) 1 1) hn1
          have fbW : Below w.heap.size W ((X4.setCell ⟨w.heap.size, 0, none⟩ (.slice (some ⟨W.heap.size + 1, 0, none⟩) 1 1)).setCell ⟨w.heap.size, 1, none⟩ (.slice (some ⟨W.heap.size, 0, none⟩) 1 1)) := ((hXY.mono B8.out.size).setCell (p := ⟨w.heap.size, 0, none⟩) (Nat.le_refl _) _).setCell (p := ⟨w.heap.size, 1, none⟩) (Nat.le_refl _) _
          have fb := B8.out.trans fbW
          generalize ((X4.setCell ⟨w.heap.size, 0, none⟩ (.slice (some ⟨W.heap.size + 1, 0, none⟩) 1 1)).setCell ⟨w.heap.size, 1, none⟩ (.slice (some ⟨W.heap.size, 0, none⟩) 1 1)) = Wf at dz f1 f2 fb fbW ⊢
          refine hK.out _ _ (Until.off (by kernel_rfl)) (fun hV => ?_)
          clear hK K
          clear hU
          have hU := hV
          clear hV
          try simp only [Act.put, List.getElem_toArray, List.getElem_cons_zero, List.getElem_cons_succ, List.setIfInBounds_toArray, List.set_cons_zero, List.set_cons_succ]
          refine AnyU.take (i := 21) (v := ?_) rfl (by kernel_rfl) (by kernel_rfl) (by kernel_rfl) (fun _ _ _ h => h) (by kernel_rfl) (by assumption) (by rfl) ?_ (fun hV => ?_)
          rotate_left 1
          · (intro wq; go_simp; try with_reducible rfl)
          clear hU
          have hU := hV
          clear hV
          try simp only [Act.put, List.getElem_toArray, List.getElem_cons_zero, List.getElem_cons_succ, List.setIfInBounds_toArray, List.set_cons_zero, List.set_cons_succ]
          refine AnyU.done (by kernel_rfl) ?_
          clear hU d0 d1 ld
          have r0 := dz.cell 0
          have r1 := dz.cell 1
          simp at r0 r1
          go_wp2_with fail
          refine bodyPost_ret (by simp [results, Tryz.results9, go_sem, r0, r1, dz.lt]; try rfl) rfl ?_
          refine ⟨⟨_, rfl, (W.heap.size + 1), W.heap.size, na, nc, sa, sc, rfl, f1, ?_, ?_⟩, fb⟩
          · show Blk Wf _ #[.int .i64 (if cc.ofType = true then 2 else 1), _, _, _, _, _, _, _, _, _] _
            rw [HOO.out]
            exact f2
          · exact ((TN.out.under (fbW.mono hB)).mono (Nat.le_trans hB fb.size))
      · have z0 := BL4.out.cell 0
        have y0 := BL4.out.free 0
        have ll := BL4.out.lt
        simp at z0
        go_upto_region 14 with fail
        have bl : Blk (w4.setCell ⟨g9, 0, none⟩ (.int .i64 2)) g9 #[.int .i64 2, .string { data := #[109] }, .string cc.name, .int .i64 0, .string { data := #[] }, .int .i64 0, .string { data := #[] }, .string { data := #[] }, .slice none 0 0, .slice none 0 0] 61 := by have := BL4.out.set 0 (.int .i64 2); simpa using this
        have hs : Below w1.heap.size w4 (w4.setCell ⟨g9, 0, none⟩ (.int .i64 2)) := (Below.refl _ _).setCell (p := ⟨g9, 0, none⟩) HG9.out _
        have hb5 := HB4.out.trans hs
        have ht5 := HT4.out.keep (w' := (w4.setCell ⟨g9, 0, none⟩ (.int .i64 2))) fun p hp => hs.cell (by omega)
        have hbaw : ba < w1.heap.size := by omega
        have m0 := (hs.cell (p := ⟨ba, _, none⟩) hbaw).trans M0.out
        have m1 := (hs.cell (p := ⟨ba, _, none⟩) hbaw).trans M1.out
        have m2 := (hs.cell (p := ⟨ba, _, none⟩) hbaw).trans M2.out
        have x2 := (hs.cell (p := ⟨bc, _, none⟩) lbc0).trans x2
        have m3 := (hs.cell (p := ⟨ba, _, none⟩) hbaw).trans m3
        have lba5 : ba < (w4.setCell ⟨g9, 0, none⟩ (.int .i64 2)).heap.size := by rw [set_size]; exact lba
        have lb4 : bc < (w4.setCell ⟨g9, 0, none⟩ (.int .i64 2)).heap.size := by rw [set_size]; exact lb4
        have hB4 : B ≤ (w4.setCell ⟨g9, 0, none⟩ (.int .i64 2)).heap.size := by rw [set_size]; exact hB4
        generalize (w4.setCell ⟨g9, 0, none⟩ (.int .i64 2)) = W5 at bl hb5 ht5 m0 m1 m2 m3 x2 lba5 lb4 hB4 hs ⊢
        clear hs z0 y0 ll m4
        go_upto_region 15 with fail
        clear m3
        clear x0 x1 x3
        have BL5 := Lib.hid bl
        have HB5 := Lib.hid hb5
        have HT5 := Lib.hid (show NmsAt W5 B ta (selF x true) from ht5)
        have M0 := Lib.hid m0
        have M1 := Lib.hid m1
        have M2 := Lib.hid m2
        clear bl hb5 ht5 m0 m1 m2
        have HOF := refOfN_c ta tc B (selF x true) cc.name W5 HT5.out hB4 (by have := HLE.out; rw [ho] at this; omega)
        rw [show ofN (selF x true) cc.name = (j2 : Int) by have := EJ.out; rw [ho] at this; exact this] at HOF
        have HOF := Lib.hid HOF
        have hjn : (selF x true)[j2] = n := by have := HJN.out; simp only [ho] at this; exact this
        obtain ⟨-, bn, pn, na, nc, sa, sc, hra, hbn, htn, -, e1, e2, e3, e4, e5, e6, e7⟩ := HT5.out.elem hj2 hjn
        obtain rfl := hra
        have hbn5 : bn < W5.heap.size := by omega
        have hj20 : (0 : Int) ≤ (j2 : Int) := by omega
        have hge : ((j2 : Int) ≥ 0) := hj20
        have hj2J : (j2 : Int) < (x.types.length : Int) := hj2I
        have TN5 := Lib.hid htn
        clear htn hjn
        go_upto_region 16 with (go_at_call 20; refine HOF.out.mono ?_; rintro e wr ⟨rfl, hwr⟩; obtain rfl := hwr.symm)
        clear x2 lb4
        have z3 := BL5.out.cell 3
        have y3 := BL5.out.free 3
        have z4 := BL5.out.cell 4
        have y4 := BL5.out.free 4
        have z5 := BL5.out.cell 5
        have y5 := BL5.out.free 5
        have z6 := BL5.out.cell 6
        have y6 := BL5.out.free 6
        have z7 := BL5.out.cell 7
        have y7 := BL5.out.free 7
        have z8 := BL5.out.cell 8
        have y8 := BL5.out.free 8
        have z9 := BL5.out.cell 9
        have y9 := BL5.out.free 9
        simp at z3 z4 z5 z6 z7 z8 z9
        have ll := BL5.out.lt
        go_upto_region 18 with fail
        have bl : Blk (((((((W5.setCell ⟨g9, 3, none⟩ (.int .i64 n.ty.kind)).setCell ⟨g9, 4, none⟩ (.string n.ty.pkg)).setCell ⟨g9, 5, none⟩ (.int .i64 n.ty.major)).setCell ⟨g9, 6, none⟩ (.string n.ty.mod)).setCell ⟨g9, 7, none⟩ (.string n.ty.name)).setCell ⟨g9, 8, none⟩ (.slice na n.ty.names.length nc)).setCell ⟨g9, 9, none⟩ (.slice sa n.ty.subs.length sc)) g9 #[.int .i64 2, .string { data := #[109] }, .string cc.name, .int .i64 n.ty.kind, .string n.ty.pkg, .int .i64 n.ty.major, .string n.ty.mod, .string n.ty.name, .slice na n.ty.names.length nc, .slice sa n.ty.subs.length sc] 61 := by have := (((((((BL5.out.set 3 (.int .i64 n.ty.kind)).set 4 (.string n.ty.pkg)).set 5 (.int .i64 n.ty.major)).set 6 (.string n.ty.mod)).set 7 (.string n.ty.name)).set 8 (.slice na n.ty.names.length nc)).set 9 (.slice sa n.ty.subs.length sc)); simpa using this
        have hs : Below w1.heap.size W5 (((((((W5.setCell ⟨g9, 3, none⟩ (.int .i64 n.ty.kind)).setCell ⟨g9, 4, none⟩ (.string n.ty.pkg)).setCell ⟨g9, 5, none⟩ (.int .i64 n.ty.major)).setCell ⟨g9, 6, none⟩ (.string n.ty.mod)).setCell ⟨g9, 7, none⟩ (.string n.ty.name)).setCell ⟨g9, 8, none⟩ (.slice na n.ty.names.length nc)).setCell ⟨g9, 9, none⟩ (.slice sa n.ty.subs.length sc)) := ((((((((Below.refl w1.heap.size W5).setCell (p := ⟨g9, 3, none⟩) HG9.out (.int .i64 n.ty.kind)).setCell (p := ⟨g9, 4, none⟩) HG9.out (.string n.ty.pkg)).setCell (p := ⟨g9, 5, none⟩) HG9.out (.int .i64 n.ty.major)).setCell (p := ⟨g9, 6, none⟩) HG9.out (.string n.ty.mod)).setCell (p := ⟨g9, 7, none⟩) HG9.out (.string n.ty.name)).setCell (p := ⟨g9, 8, none⟩) HG9.out (.slice na n.ty.names.length nc)).setCell (p := ⟨g9, 9, none⟩) HG9.out (.slice sa n.ty.subs.length sc))
        have hz : (((((((W5.setCell ⟨g9, 3, none⟩ (.int .i64 n.ty.kind)).setCell ⟨g9, 4, none⟩ (.string n.ty.pkg)).setCell ⟨g9, 5, none⟩ (.int .i64 n.ty.major)).setCell ⟨g9, 6, none⟩ (.string n.ty.mod)).setCell ⟨g9, 7, none⟩ (.string n.ty.name)).setCell ⟨g9, 8, none⟩ (.slice na n.ty.names.length nc)).setCell ⟨g9, 9, none⟩ (.slice sa n.ty.subs.length sc)).heap.size = W5.heap.size := by simp [World.setCell]
        generalize (((((((W5.setCell ⟨g9, 3, none⟩ (.int .i64 n.ty.kind)).setCell ⟨g9, 4, none⟩ (.string n.ty.pkg)).setCell ⟨g9, 5, none⟩ (.int .i64 n.ty.major)).setCell ⟨g9, 6, none⟩ (.string n.ty.mod)).setCell ⟨g9, 7, none⟩ (.string n.ty.name)).setCell ⟨g9, 8, none⟩ (.slice na n.ty.names.length nc)).setCell ⟨g9, 9, none⟩ (.slice sa n.ty.subs.length sc)) = W at bl hs hz ⊢
        clear ll e1 e2 e3 e4 e5 e6 e7 z3 y3 z4 y4 z5 y5 z6 y6 z7 y7 z8 y8 z9 y9
        have hbaw : ba < w1.heap.size := by omega
        have m0 := (hs.cell (p := ⟨ba, _, none⟩) hbaw).trans M0.out
        have m1 := (hs.cell (p := ⟨ba, _, none⟩) hbaw).trans M1.out
        have m2 := (hs.cell (p := ⟨ba, _, none⟩) hbaw).trans M2.out
        have hb8 := HB5.out.trans hs
        have M0 := Lib.hid m0
        have M1 := Lib.hid m1
        have M2 := Lib.hid m2
        have BL := Lib.hid bl
        have D8 := Lib.hid (D1.out.under hb8 D1.out.lt)
        have B8 := Lib.hid (B1.out.trans (hb8.mono B1.out.size))
        have TN := Lib.hid (TN5.out.keep (w' := W) fun p hp => hs.cell (by omega))
        have lba : ba < W.heap.size := by rw [hz]; exact lba5
        clear bl hs hz hbaw hb8 BL5 HB5 HT5 TN5
        refine wp_region_until [(16, fun w' => w'.cell? ⟨ba, oa + j * 5, none⟩ = some (.string x.pkg) ∧ w'.cell? ⟨ba, oa + j * 5 + 1, none⟩ = some (.int .i64 x.major) ∧ w'.cell? ⟨ba, oa + j * 5 + 2, none⟩ = some (.string x.mod)), (18, fun w' => Blk w' g9 #[.int .i64 2, .string { data := #[109] }, .string cc.name, .int .i64 n.ty.kind, .string n.ty.pkg, .int .i64 n.ty.major, .string n.ty.mod, .string n.ty.name, .slice na n.ty.names.length nc, .slice sa n.ty.subs.length sc] 61)] (by kernel_rfl) (Until.cons (fun _ => ⟨m0, m1, m2⟩) (Until.cons (fun _ => BL.out.drew) Until.nil)) (fun hU => ?_)
        refine AnyU.take (i := 0) (v := ?_) rfl (by kernel_rfl) (by kernel_rfl) (by kernel_rfl) (fun _ _ _ h => h) (by kernel_rfl) (by assumption) (by rfl) ?_ (fun hV => ?_)
        rotate_left 1
        · (intro wq; go_simp; try with_reducible rfl)
        clear hU
        have hU := hV
        clear hV
        try simp only [Act.put, List.getElem_toArray, List.getElem_cons_zero, List.getElem_cons_succ, List.setIfInBounds_toArray, List.set_cons_zero, List.set_cons_succ]
        refine AnyU.take (i := 1) (v := ?_) rfl (by kernel_rfl) (by kernel_rfl) (by kernel_rfl) (fun _ _ _ h => h) (by kernel_rfl) (by assumption) (by rfl) ?_ (fun hV => ?_)
        rotate_left 1
        · (intro wq; go_simp; try with_reducible rfl)
        clear hU
        have hU := hV
        clear hV
        try simp only [Act.put, List.getElem_toArray, List.getElem_cons_zero, List.getElem_cons_succ, List.setIfInBounds_toArray, List.set_cons_zero, List.set_cons_succ]
        refine AnyU.take (i := 2) (v := ?_) rfl (by kernel_rfl) (by kernel_rfl) (by kernel_rfl) (fun _ _ _ h => h) (by kernel_rfl) (by assumption) (by rfl) ?_ (fun hV => ?_)
        rotate_left 1
        · (intro wq; go_simp; try with_reducible rfl)
        clear hU
        have hU := hV
        clear hV
        try simp only [Act.put, List.getElem_toArray, List.getElem_cons_zero, List.getElem_cons_succ, List.setIfInBounds_toArray, List.set_cons_zero, List.set_cons_succ]
        refine AnyU.take (i := 3) (v := ?_) rfl (by kernel_rfl) (by kernel_rfl) (by kernel_rfl) (fun _ _ _ h => h) (by kernel_rfl) (by assumption) (by rfl) ?_ (fun hV => ?_)
        rotate_left 1
        · (intro wq; go_simp; try with_reducible rfl)
        clear hU
        have hU := hV
        clear hV
        try simp only [Act.put, List.getElem_toArray, List.getElem_cons_zero, List.getElem_cons_succ, List.setIfInBounds_toArray, List.set_cons_zero, List.set_cons_succ]
        refine AnyU.loadc (i := 4) (d := 16) [15, 16] (Si := fun w' => w'.cell? ⟨ba, oa + j * 5, none⟩ = some (.string x.pkg) ∧ w'.cell? ⟨ba, oa + j * 5 + 1, none⟩ = some (.int .i64 x.major) ∧ w'.cell? ⟨ba, oa + j * 5 + 2, none⟩ = some (.string x.mod)) (v := ?_) rfl (by kernel_rfl) (by kernel_rfl) (by kernel_rfl) (fun _ _ _ h => h) (by kernel_rfl) (by assumption) (by kernel_rfl) rfl (by simp) (by rfl) ?_ (fun hV => ?_)
        rotate_left 1
        · (intro wq hq; obtain ⟨u, -, -⟩ := hq; go_simp; try with_reducible rfl)
        clear hU
        have hU := hV
        clear hV
        try simp only [Act.put, List.getElem_toArray, List.getElem_cons_zero, List.getElem_cons_succ, List.setIfInBounds_toArray, List.set_cons_zero, List.set_cons_succ]
        refine AnyU.take (i := 5) (v := ?_) rfl (by kernel_rfl) (by kernel_rfl) (by kernel_rfl) (fun _ _ _ h => h) (by kernel_rfl) (by assumption) (by rfl) ?_ (fun hV => ?_)
        rotate_left 1
        · (intro wq; go_simp; try with_reducible rfl)
        clear hU
        have hU := hV
        clear hV
        try simp only [Act.put, List.getElem_toArray, List.getElem_cons_zero, List.getElem_cons_succ, List.setIfInBounds_toArray, List.set_cons_zero, List.set_cons_succ]
        refine AnyU.take (i := 6) (v := ?_) rfl (by kernel_rfl) (by kernel_rfl) (by kernel_rfl) (fun _ _ _ h => h) (by kernel_rfl) (by assumption) (by rfl) ?_ (fun hV => ?_)
        rotate_left 1
        · (intro wq; go_simp; try with_reducible rfl)
        clear hU
        have hU := hV
        clear hV
        try simp only [Act.put, List.getElem_toArray, List.getElem_cons_zero, List.getElem_cons_succ, List.setIfInBounds_toArray, List.set_cons_zero, List.set_cons_succ]
        refine AnyU.take (i := 7) (v := ?_) rfl (by kernel_rfl) (by kernel_rfl) (by kernel_rfl) (fun _ _ _ h => h) (by kernel_rfl) (by assumption) (by rfl) ?_ (fun hV => ?_)
        rotate_left 1
        · (intro wq; go_simp; try with_reducible rfl)
        clear hU
        have hU := hV
        clear hV
        try simp only [Act.put, List.getElem_toArray, List.getElem_cons_zero, List.getElem_cons_succ, List.setIfInBounds_toArray, List.set_cons_zero, List.set_cons_succ]
        refine AnyU.take (i := 8) (v := ?_) rfl (by kernel_rfl) (by kernel_rfl) (by kernel_rfl) (fun _ _ _ h => h) (by kernel_rfl) (by assumption) (by rfl) ?_ (fun hV => ?_)
        rotate_left 1
        · (intro wq; go_simp; try with_reducible rfl)
        clear hU
        have hU := hV
        clear hV
        try simp only [Act.put, List.getElem_toArray, List.getElem_cons_zero, List.getElem_cons_succ, List.setIfInBounds_toArray, List.set_cons_zero, List.set_cons_succ]
        refine AnyU.loadc (i := 9) (d := 16) [15, 16] (Si := fun w' => w'.cell? ⟨ba, oa + j * 5, none⟩ = some (.string x.pkg) ∧ w'.cell? ⟨ba, oa + j * 5 + 1, none⟩ = some (.int .i64 x.major) ∧ w'.cell? ⟨ba, oa + j * 5 + 2, none⟩ = some (.string x.mod)) (v := ?_) rfl (by kernel_rfl) (by kernel_rfl) (by kernel_rfl) (fun _ _ _ h => h) (by kernel_rfl) (by assumption) (by kernel_rfl) rfl (by simp) (by rfl) ?_ (fun hV => ?_)
        rotate_left 1
        · (intro wq hq; obtain ⟨-, u, -⟩ := hq; go_simp; try with_reducible rfl)
        clear hU
        have hU := hV
        clear hV
        try simp only [Act.put, List.getElem_toArray, List.getElem_cons_zero, List.getElem_cons_succ, List.setIfInBounds_toArray, List.set_cons_zero, List.set_cons_succ]
        refine AnyU.take (i := 10) (v := ?_) rfl (by kernel_rfl) (by kernel_rfl) (by kernel_rfl) (fun _ _ _ h => h) (by kernel_rfl) (by assumption) (by rfl) ?_ (fun hV => ?_)
        rotate_left 1
        · (intro wq; go_simp; try with_reducible rfl)
        clear hU
        have hU := hV
        clear hV
        try simp only [Act.put, List.getElem_toArray, List.getElem_cons_zero, List.getElem_cons_succ, List.setIfInBounds_toArray, List.set_cons_zero, List.set_cons_succ]
        refine AnyU.take (i := 11) (v := ?_) rfl (by kernel_rfl) (by kernel_rfl) (by kernel_rfl) (fun _ _ _ h => h) (by kernel_rfl) (by assumption) (by rfl) ?_ (fun hV => ?_)
        rotate_left 1
        · (intro wq; go_simp; try with_reducible rfl)
        clear hU
        have hU := hV
        clear hV
        try simp only [Act.put, List.getElem_toArray, List.getElem_cons_zero, List.getElem_cons_succ, List.setIfInBounds_toArray, List.set_cons_zero, List.set_cons_succ]
        refine AnyU.take (i := 12) (v := ?_) rfl (by kernel_rfl) (by kernel_rfl) (by kernel_rfl) (fun _ _ _ h => h) (by kernel_rfl) (by assumption) (by rfl) ?_ (fun hV => ?_)
        rotate_left 1
        · (intro wq; go_simp; try with_reducible rfl)
        clear hU
        have hU := hV
        clear hV
        try simp only [Act.put, List.getElem_toArray, List.getElem_cons_zero, List.getElem_cons_succ, List.setIfInBounds_toArray, List.set_cons_zero, List.set_cons_succ]
        refine AnyU.take (i := 13) (v := ?_) rfl (by kernel_rfl) (by kernel_rfl) (by kernel_rfl) (fun _ _ _ h => h) (by kernel_rfl) (by assumption) (by rfl) ?_ (fun hV => ?_)
        rotate_left 1
        · (intro wq; go_simp; try with_reducible rfl)
        clear hU
        have hU := hV
        clear hV
        try simp only [Act.put, List.getElem_toArray, List.getElem_cons_zero, List.getElem_cons_succ, List.setIfInBounds_toArray, List.set_cons_zero, List.set_cons_succ]
        refine AnyU.loadc (i := 14) (d := 16) [15, 16] (Si := fun w' => w'.cell? ⟨ba, oa + j * 5, none⟩ = some (.string x.pkg) ∧ w'.cell? ⟨ba, oa + j * 5 + 1, none⟩ = some (.int .i64 x.major) ∧ w'.cell? ⟨ba, oa + j * 5 + 2, none⟩ = some (.string x.mod)) (v := ?_) rfl (by kernel_rfl) (by kernel_rfl) (by kernel_rfl) (fun _ _ _ h => h) (by kernel_rfl) (by assumption) (by kernel_rfl) rfl (by simp) (by rfl) ?_ (fun hV => ?_)
        rotate_left 1
        · (intro wq hq; obtain ⟨-, -, u⟩ := hq; go_simp; try with_reducible rfl)
        clear hU
        have hU := hV
        clear hV
        try simp only [Act.put, List.getElem_toArray, List.getElem_cons_zero, List.getElem_cons_succ, List.setIfInBounds_toArray, List.set_cons_zero, List.set_cons_succ]
        refine AnyU.take (i := 15) (v := ?_) rfl (by kernel_rfl) (by kernel_rfl) (by kernel_rfl) (fun _ _ _ h => h) (by kernel_rfl) (by assumption) (by rfl) ?_ (fun hV => ?_)
        rotate_left 1
        · (intro wq; go_simp; try with_reducible rfl)
        clear hU
        have hU := hV
        clear hV
        try simp only [Act.put, List.getElem_toArray, List.getElem_cons_zero, List.getElem_cons_succ, List.setIfInBounds_toArray, List.set_cons_zero, List.set_cons_succ]
        refine AnyU.loadc (i := 17) (d := 18) [18] (Si := fun w' => Blk w' g9 #[.int .i64 2, .string { data := #[109] }, .string cc.name, .int .i64 n.ty.kind, .string n.ty.pkg, .int .i64 n.ty.major, .string n.ty.mod, .string n.ty.name, .slice na n.ty.names.length nc, .slice sa n.ty.subs.length sc] 61) (v := ?_) rfl (by kernel_rfl) (by kernel_rfl) (by kernel_rfl) (fun _ _ _ h => h) (by kernel_rfl) (by assumption) (by kernel_rfl) rfl (by simp) (by rfl) ?_ (fun hV => ?_)
        rotate_left 1
        · (intro wq hq; have u0 := hq.cell 0; have u1 := hq.cell 1; have u2 := hq.cell 2; have u3 := hq.cell 3; have u4 := hq.cell 4; have u5 := hq.cell 5; have u6 := hq.cell 6; have u7 := hq.cell 7; have u8 := hq.cell 8; have u9 := hq.cell 9; simp at u0 u1 u2 u3 u4 u5 u6 u7 u8 u9; go_simp; try with_reducible rfl)
        clear hU
        have hU := hV
        clear hV
        try simp only [Act.put, List.getElem_toArray, List.getElem_cons_zero, List.getElem_cons_succ, List.setIfInBounds_toArray, List.set_cons_zero, List.set_cons_succ]
        refine AnyU.ready2 (i := 16) (j := 18) (by kernel_rfl) (AnyU.one rfl fun K hK => ?_) (AnyU.one rfl fun K hK => ?_)
        · go_simp
          obtain ⟨hX, hbX, hsX⟩ := laidX W #[.string x.pkg, .int .i64 x.major, .string x.mod, .string { data := #[109] }] 63
          generalize hX3 : ((W.alloc (.cells #[.string x.pkg, .int .i64 x.major, .string x.mod, .string { data := #[109] }] 63)).drew) = X3 at hX hbX hsX ⊢
          clear hX3
          have m0 := (hX.cell (p := ⟨ba, _, none⟩) lba).trans M0.out
          have m1 := (hX.cell (p := ⟨ba, _, none⟩) lba).trans M1.out
          have m2 := (hX.cell (p := ⟨ba, _, none⟩) lba).trans M2.out
          have bl := BL.out.under hX BL.out.lt
          refine hK.out _ _ (Until.cons (fun h => absurd h (by decide)) (Until.cons (fun _ => bl) Until.nil)) (fun hV => ?_)
          clear hK K
          clear hU
          have hU := hV
          clear hV
          try simp only [Act.put, List.getElem_toArray, List.getElem_cons_zero, List.getElem_cons_succ, List.setIfInBounds_toArray, List.set_cons_zero, List.set_cons_succ]
          refine AnyU.ready1 (i := 18) (by kernel_rfl) (AnyU.one rfl fun K hK => ?_)
          go_simp
          have hY := (Below.refl X3.heap.size X3).alloc (Nat.le_refl _) (.cells #[.int .i64 2, .string { data := #[109] }, .string cc.name, .int .i64 n.ty.kind, .string n.ty.pkg, .int .i64 n.ty.major, .string n.ty.mod, .string n.ty.name, .slice na n.ty.names.length nc, .slice sa n.ty.subs.length sc] 61)
          have hbY := Blk.new X3 #[.int .i64 2, .string { data := #[109] }, .string cc.name, .int .i64 n.ty.kind, .string n.ty.pkg, .int .i64 n.ty.major, .string n.ty.mod, .string n.ty.name, .slice na n.ty.names.length nc, .slice sa n.ty.subs.length sc] 61
          generalize hX4 : (X3.alloc (.cells #[.int .i64 2, .string { data := #[109] }, .string cc.name, .int .i64 n.ty.kind, .string n.ty.pkg, .int .i64 n.ty.major, .string n.ty.mod, .string n.ty.name, .slice na n.ty.names.length nc, .slice sa n.ty.subs.length sc] 61)) = X4 at hY hbY ⊢
          clear hX4
          rw [hsX] at hbY
          have hbX := hbX.under hY hbX.lt
          have d4 := (D8.out.under hX D8.out.lt).under hY (D8.out.under hX D8.out.lt).lt
          have hXY : Below W.heap.size W X4 := hX.trans (hY.mono hX.size)
          refine hK.out _ _ (Until.off (by kernel_rfl)) (fun hV => ?_)
          clear hK K
          clear hU
          have hU := hV
          clear hV
          try simp only [Act.put, List.getElem_toArray, List.getElem_cons_zero, List.getElem_cons_succ, List.setIfInBounds_toArray, List.set_cons_zero, List.set_cons_succ]
          refine AnyU.take (i := 19) (v := ?_) rfl (by kernel_rfl) (by kernel_rfl) (by kernel_rfl) (fun _ _ _ h => h) (by kernel_rfl) (by assumption) (by rfl) ?_ (fun hV => ?_)
          rotate_left 1
          · (intro wq; go_simp; try with_reducible rfl)
          clear hU
          have hU := hV
          clear hV
          try simp only [Act.put, List.getElem_toArray, List.getElem_cons_zero, List.getElem_cons_succ, List.setIfInBounds_toArray, List.set_cons_zero, List.set_cons_succ]
          have d0 := d4.cell 0
          have d1 := d4.cell 1
          simp at d0 d1
          have f0 := d4.free 0
          have f1 := d4.free 1
          have ld := d4.lt
          refine AnyU.ready1 (i := 20) (by kernel_rfl) (AnyU.one rfl fun K hK => ?_)
          go_simp
          have dz : Blk ((X4.setCell ⟨w.heap.size, 0, none⟩ (.slice (some ⟨W.heap.size, 0, none⟩) 1 1)).setCell ⟨w.heap.size, 1, none⟩ (.slice (some ⟨W.heap.size + 1, 0, none⟩) 1 1)) w.heap.size #[(.slice (some ⟨W.heap.size, 0, none⟩) 1 1), (.slice (some ⟨W.heap.size + 1, 0, none⟩) 1 1)] 28 := by have := (d4.set 0 (.slice (some ⟨W.heap.size, 0, none⟩) 1 1)).set 1 (.slice (some ⟨W.heap.size + 1, 0, none⟩) 1 1); simpa using this
          have hn1 : W.heap.size ≠ w.heap.size := fun e => by have := D8.out.lt; omega
          have hn2 : W.heap.size + 1 ≠ w.heap.size := fun e => by have := D8.out.lt; omega
          have f1 := (hbX.far ⟨w.heap.size, 0, none⟩ (.slice (some ⟨W.heap.size, 0, none⟩) 1 1) hn1).far ⟨w.heap.size, 1, none⟩ (.slice (some ⟨W.heap.size + 1, 0, none⟩) 1 1) hn1
          have f2 := (hbY.far ⟨w.heap.size, 0, none⟩ (.slice (some ⟨W.heap.size, 0, none⟩) 1 1) hn2).far ⟨w.heap.size, 1, none⟩ (.slice (some ⟨W.heap.size + 1, 0, none⟩) 1 1) hn2
          have fbW : Below w.heap.size W ((X4.setCell ⟨w.heap.size, 0, none⟩ (.slice (some ⟨W.heap.size, 0, none⟩) 1 1)).setCell ⟨w.heap.size, 1, none⟩ (.slice (some ⟨W.heap.size + 1, 0, none⟩) 1 1)) := ((hXY.mono B8.out.size).setCell (p := ⟨w.heap.size, 0, none⟩) (Nat.le_refl _) _).setCell (p := ⟨w.heap.size, 1, none⟩) (Nat.le_refl _) _
          have fb := B8.out.trans fbW
          generalize ((X4.setCell ⟨w.heap.size, 0, none⟩ (.slice (some ⟨W.heap.size, 0, none⟩) 1 1)).setCell ⟨w.heap.size, 1, none⟩ (.slice (some ⟨W.heap.size + 1, 0, none⟩) 1 1)) = Wf at dz f1 f2 fb fbW ⊢
          refine hK.out _ _ (Until.off (by kernel_rfl)) (fun hV => ?_)
          clear hK K
          clear hU
          have hU := hV
          clear hV
          try simp only [Act.put, List.getElem_toArray, List.getElem_cons_zero, List.getElem_cons_succ, List.setIfInBounds_toArray, List.set_cons_zero, List.set_cons_succ]
          refine AnyU.take (i := 21) (v := ?_) rfl (by kernel_rfl) (by kernel_rfl) (by kernel_rfl) (fun _ _ _ h => h) (by kernel_rfl) (by assumption) (by rfl) ?_ (fun hV => ?_)
          rotate_left 1
          · (intro wq; go_simp; try with_reducible rfl)
          clear hU
          have hU := hV
          clear hV
          try simp only [Act.put, List.getElem_toArray, List.getElem_cons_zero, List.getElem_cons_succ, List.setIfInBounds_toArray, List.set_cons_zero, List.set_cons_succ]
          refine AnyU.done (by kernel_rfl) ?_
          clear hU d0 d1 ld
          have r0 := dz.cell 0
          have r1 := dz.cell 1
          simp at r0 r1
          go_wp2_with fail
          refine bodyPost_ret (by simp [results, Tryz.results9, go_sem, r0, r1, dz.lt]; try rfl) rfl ?_
          refine ⟨⟨_, rfl, W.heap.size, (W.heap.size + 1), na, nc, sa, sc, rfl, f1, ?_, ?_⟩, fb⟩
          · show Blk Wf _ #[.int .i64 (if cc.ofType = true then 2 else 1), _, _, _, _, _, _, _, _, _] _
            rw [HOO.out]
            exact f2
          · exact ((TN.out.under (fbW.mono hB)).mono (Nat.le_trans hB fb.size))
        · go_simp
          obtain ⟨hX, hbX, hsX⟩ := laidX W #[.int .i64 2, .string { data := #[109] }, .string cc.name, .int .i64 n.ty.kind, .string n.ty.pkg, .int .i64 n.ty.major, .string n.ty.mod, .string n.ty.name, .slice na n.ty.names.length nc, .slice sa n.ty.subs.length sc] 61
          generalize hX3 : ((W.alloc (.cells #[.int .i64 2, .string { data := #[109] }, .string cc.name, .int .i64 n.ty.kind, .string n.ty.pkg, .int .i64 n.ty.major, .string n.ty.mod, .string n.ty.name, .slice na n.ty.names.length nc, .slice sa n.ty.subs.length sc] 61)).drew) = X3 at hX hbX hsX ⊢
          clear hX3
          have m0 := (hX.cell (p := ⟨ba, _, none⟩) lba).trans M0.out
          have m1 := (hX.cell (p := ⟨ba, _, none⟩) lba).trans M1.out
          have m2 := (hX.cell (p := ⟨ba, _, none⟩) lba).trans M2.out
          have bl := BL.out.under hX BL.out.lt
          refine hK.out _ _ (Until.cons (fun _ => ⟨m0, m1, m2⟩) (Until.cons (fun h => absurd h (by decide)) Until.nil)) (fun hV => ?_)
          clear hK K
          clear hU
          have hU := hV
          clear hV
          try simp only [Act.put, List.getElem_toArray, List.getElem_cons_zero, List.getElem_cons_succ, List.setIfInBounds_toArray, List.set_cons_zero, List.set_cons_succ]
          refine AnyU.ready1 (i := 16) (by kernel_rfl) (AnyU.one rfl fun K hK => ?_)
          go_simp
          have hY := (Below.refl X3.heap.size X3).alloc (Nat.le_refl _) (.cells #[.string x.pkg, .int .i64 x.major, .string x.mod, .string { data := #[109] }] 63)
          have hbY := Blk.new X3 #[.string x.pkg, .int .i64 x.major, .string x.mod, .string { data := #[109] }] 63
          generalize hX4 : (X3.alloc (.cells #[.string x.pkg, .int .i64 x.major, .string x.mod, .string { data := #[109] }] 63)) = X4 at hY hbY ⊢
          clear hX4
          rw [hsX] at hbY
          have hbX := hbX.under hY hbX.lt
          have d4 := (D8.out.under hX D8.out.lt).under hY (D8.out.under hX D8.out.lt).lt
          have hXY : Below W.heap.size W X4 := hX.trans (hY.mono hX.size)
          refine hK.out _ _ (Until.off (by kernel_rfl)) (fun hV => ?_)
          clear hK K
          clear hU
          have hU := hV
          clear hV
          try simp only [Act.put, List.getElem_toArray, List.getElem_cons_zero, List.getElem_cons_succ, List.setIfInBounds_toArray, List.set_cons_zero, List.set_cons_succ]
          refine AnyU.take (i := 19) (v := ?_) rfl (by kernel_rfl) (by kernel_rfl) (by kernel_rfl) (fun _ _ _ h => h) (by kernel_rfl) (by assumption) (by rfl) ?_ (fun hV => ?_)
          rotate_left 1
          · (intro wq; go_simp; try with_reducible rfl)
          clear hU
          have hU := hV
          clear hV
          try simp only [Act.put, List.getElem_toArray, List.getElem_cons_zero, List.getElem_cons_succ, List.setIfInBounds_toArray, List.set_cons_zero, List.set_cons_succ]
          have d0 := d4.cell 0
          have d1 := d4.cell 1
          simp at d0 d1
          have f0 := d4.free 0
          have f1 := d4.free 1
          have ld := d4.lt
          refine AnyU.ready1 (i := 20) (by kernel_rfl) (AnyU.one rfl fun K hK => ?_)
          go_simp
          have dz : Blk ((X4.setCell ⟨w.heap.size, 0, none⟩ (.slice (some ⟨W.heap.size + 1, 0, none⟩) 1 1)).setCell ⟨w.heap.size, 1, none⟩ (.slice (some ⟨W.heap.size, 0, none⟩) 1 1)) w.heap.size #[(.slice (some ⟨W.heap.size + 1, 0, none⟩) 1 1), (.slice (some ⟨W.heap.size, 0, none⟩) 1 1)] 28 := by have := (d4.set 0 (.slice (some ⟨W.heap.size + 1, 0, none⟩) 1 1)).set 1 (.slice (some ⟨W.heap.size, 0, none⟩) 1 1); simpa using this
          have hn1 : W.heap.size ≠ w.heap.size := fun e => by have := D8.out.lt; omega
          have hn2 : W.heap.size + 1 ≠ w.heap.size := fun e => by have := D8.out.lt; omega
          have f1 := (hbY.far ⟨w.heap.size, 0, none⟩ (.slice (some ⟨W.heap.size + 1, 0, none⟩) 1 1) hn2).far ⟨w.heap.size, 1, none⟩ (.slice (some ⟨W.heap.size, 0, none⟩) 1 1) hn2
          have f2 := (hbX.far ⟨w.heap.size, 0, none⟩ (.slice (some ⟨W.heap.size + 1, 0, none⟩) 1 1) hn1).far ⟨w.heap.size, 1, none⟩ (.slice (some ⟨W.heap.size, 0, none⟩) 1 1) hn1
          have fbW : Below w.heap.size W ((X4.setCell ⟨w.heap.size, 0, none⟩ (.slice (some ⟨W.heap.size + 1, 0, none⟩) 1 1)).setCell ⟨w.heap.size, 1, none⟩ (.slice (some ⟨W.heap.size, 0, none⟩) 1 1)) := ((hXY.mono B8.out.size).setCell (p := ⟨w.heap.size, 0, none⟩) (Nat.le_refl _) _).setCell (p := ⟨w.heap.size, 1, none⟩) (Nat.le_refl _) _
          have fb := B8.out.trans fbW
          generalize ((X4.setCell ⟨w.heap.size, 0, none⟩ (.slice (some ⟨W.heap.size + 1, 0, none⟩) 1 1)).setCell ⟨w.heap.size, 1, none⟩ (.slice (some ⟨W.heap.size, 0, none⟩) 1 1)) = Wf at dz f1 f2 fb fbW ⊢
          refine hK.out _ _ (Until.off (by kernel_rfl)) (fun hV => ?_)
          clear hK K
          clear hU
          have hU := hV
          clear hV
          try simp only [Act.put, List.getElem_toArray, List.getElem_cons_zero, List.getElem_cons_succ, List.setIfInBounds_toArray, List.set_cons_zero, List.set_cons_succ]
          refine AnyU.take (i := 21) (v := ?_) rfl (by kernel_rfl) (by kernel_rfl) (by kernel_rfl) (fun _ _ _ h => h) (by kernel_rfl) (by assumption) (by rfl) ?_ (fun hV => ?_)
          rotate_left 1
          · (intro wq; go_simp; try with_reducible rfl)
          clear hU
          have hU := hV
          clear hV
          try simp only [Act.put, List.getElem_toArray, List.getElem_cons_zero, List.getElem_cons_succ, List.setIfInBounds_toArray, List.set_cons_zero, List.set_cons_succ]
          refine AnyU.done (by kernel_rfl) ?_
          clear hU d0 d1 ld
          have r0 := dz.cell 0
          have r1 := dz.cell 1
          simp at r0 r1
          go_wp2_with fail
          refine bodyPost_ret (by simp [results, Tryz.results9, go_sem, r0, r1, dz.lt]; try rfl) rfl ?_
          refine ⟨⟨_, rfl, (W.heap.size + 1), W.heap.size, na, nc, sa, sc, rfl, f1, ?_, ?_⟩, fb⟩
          · show Blk Wf _ #[.int .i64 (if cc.ofType = true then 2 else 1), _, _, _, _, _, _, _, _, _] _
            rw [HOO.out]
            exact f2
          · exact ((TN.out.under (fbW.mono hB)).mono (Nat.le_trans hB fb.size))
end Go.Proofs.YtbffijiecbfpnaaGreatDoor
namespace Go.Proofs.YtbffijiecbfpnaaGreatDoor
open Go.RowKit
set_option linter.unusedSimpArgs false
set_option linter.unusedVariables false
set_option maxRecDepth 100000 in
set_option maxHeartbeats 8000000 in
theorem wantNone_c (A A' : Option Addr) (c c' B : Nat) (a b : List If) (w : World) (h1 : IfsAt w B A a) (h2 : IfsAt w B A' b) (hB : B ≤ w.heap.size) (hl : a.length ≤ 1000) (hl' : b.length ≤ 1000) (hfa : a.all fewX = true) (hfb : b.all fewX = true) (ma : mayP a = true) (mb : mayP b = true) (hbig : bigC (chgF a b) = none) :
    Calls Tryz.prog 9 #[.slice A a.length c, .slice A' b.length c'] w fun e w' => e = .returned (.tuple #[.agg #[.slice none 0 0, .slice none 0 0], .bool false]) ∧ Below w.heap.size w w' := by
  have hW := Blk.new w #[.slice none 0 0, .slice none 0 0] 28
  have hbW : Below w.heap.size w (w.alloc (.cells #[.slice none 0 0, .slice none 0 0] 28)) := (Below.refl _ _).alloc (Nat.le_refl _) _
  have HC := Lib.hid (refChg_c A A' c c' B a b (w.alloc (.cells #[.slice none 0 0, .slice none 0 0] 28)) (h1.alloc hB _) (h2.alloc hB _) (Nat.le_trans hB hbW.size) hl hl' hfa hfb ma mb)
  have hLen : (chgF a b).length ≤ 2000000 := Nat.le_trans (chgF_len hl hl' hfa hfb) (by omega)
  have hkinds : ∀ c ∈ chgF a b, 0 < c.kind := fun c h => (chg_mem.1 h).2.2
  obtain ⟨R, hR⟩ : ∃ R, chgF a b = R := ⟨_, rfl⟩
  simp only [hR] at HC hLen hbig hkinds
  clear hR
  have HSM := Lib.hid (show ∀ i (h : i < R.length), R[i].kind > 2 from fun i h => by
    have h1 := List.find?_eq_none.1 hbig R[i] (List.getElem_mem h)
    have h2 := hkinds _ (List.getElem_mem h)
    have h3 : ¬ (R[i].kind == 1 || R[i].kind == 2) = true := h1
    simp at h3
    omega)
  clear h1 h2 hbig hkinds hfa hfb ma mb
  have HW := Lib.hid hW
  have HB := Lib.hid hbW
  clear hW hbW
  go_enter Tryz.func9, Tryz.ntmps9
  go_upto_region 2 with (go_at_call 19; refine HC.out.mono ?_; rintro e w1 ⟨v1, rfl, ho, hb⟩; have B1 := Lib.hid (HB.out.trans (hb.mono HB.out.size)); have D1 := Lib.hid (HW.out.under hb HW.out.lt); have R1 := Lib.hid (ChgAt.own ho); clear hb ho)
  obtain ⟨pp, cap, rfl, hcc⟩ := R1.out
  have HCC := Lib.hid hcc
  clear hcc R1 HC HW HB
  go_wp2_with fail
  go_loop [7] (fun v => ∃ i : Nat, v = .int .i64 i ∧ i ≤ R.length) (fun v => R.length - (intOf v).toNat)
  case atStart => exact ⟨0, rfl, Nat.zero_le _⟩
  case round =>
    obtain ⟨i, rfl, hi⟩ := hrel
    by_cases hilt : i < R.length
    · obtain ⟨bc, oc, rfl, lbc, gc⟩ := HCC.out (by omega)
      have hiI : (i : Int) < (R.length : Int) := by omega
      obtain ⟨z, hz⟩ : ∃ z, R[i] = z := ⟨_, rfl⟩
      have x0 := gc i hilt 0 (by decide)
      have hsm := HSM.out i hilt
      rw [hz] at x0 hsm
      simp [Chg.cells] at x0
      have hgt : (z.kind > 2) := hsm
      clear hz gc
      go_wp2_with fail
      exact ⟨⟨i + 1, by go_num, by omega⟩, by simp [intOf]; omega⟩
    · have hiI : ¬ (i : Int) < (R.length : Int) := by omega
      have q0 := D1.out.cell 0
      have q1 := D1.out.cell 1
      have f0 := D1.out.free 0
      have f1 := D1.out.free 1
      have lq := D1.out.lt
      simp at q0 q1
      go_wp2_with fail
      refine bodyPost_ret (by simp [results, Tryz.results9, go_sem, q0, q1, lq]; try rfl) rfl ?_
      exact ⟨rfl, (B1.out.setCell (p := ⟨w.heap.size, 0, none⟩) (Nat.le_refl _) _).setCell (p := ⟨w.heap.size, 1, none⟩) (Nat.le_refl _) _⟩
end Go.Proofs.YtbffijiecbfpnaaGreatDoor
namespace Go.Proofs.YtbffijiecbfpnaaGreatDoor
open Go.RowKit
set_option linter.unusedSimpArgs false
set_option linter.unusedVariables false
theorem impEq (a : Int) (s t u : ByteArray) (w : World) : (Op.equalIn 10000 63 (.agg #[.string s, .int .i64 a, .string t, .string u]) (.agg #[.string s, .int .i64 a, .string t, .string u])).run Tryz.prog w = .ok true w := by
  have hS : Tryz.prog.underlying 63 = some (.struct (Tryz.prog.fieldsOf 63)) := by kernel_rfl
  have hp : Tryz.prog.stoodInHeld 63 = false := by kernel_rfl
  rw [show (10000 : Nat) = 9999 + 1 from rfl, run_equalIn_agg w 9999 63 _ _ hS hp]
  simp only [Program.fieldsOf, Tryz.underlying63]
  go_simp
  try simp
theorem impNeq (a : Int) (s t u : ByteArray) (w : World) : (binOp .neq 63 (.agg #[.string s, .int .i64 a, .string t, .string u]) (.agg #[.string s, .int .i64 a, .string t, .string u])).run Tryz.prog w = .ok (.bool false) w := by
  rw [run_neq_struct, impEq]; rfl
set_option maxRecDepth 100000 in
set_option maxHeartbeats 4000000 in
theorem usame0_c (w : World) : Calls Tryz.prog 8 #[.agg #[.slice none 0 0, .slice none 0 0], .agg #[.slice none 0 0, .slice none 0 0]] w fun e w' => e = .returned (.bool true) ∧ Below w.heap.size w w' := by
  obtain ⟨b1, b2, hz, hb⟩ := twoW w #[.slice none 0 0, .slice none 0 0] #[.slice none 0 0, .slice none 0 0] 28 28
  go_enter Tryz.func8, Tryz.ntmps8
  go_upto_region 1 with fail
  generalize ((w.alloc (.cells #[.slice none 0 0, .slice none 0 0] 28)).alloc (.cells #[.slice none 0 0, .slice none 0 0] 28)) = W at b1 b2 hz hb ⊢
  have HB := Lib.hid hb
  have p0 := b1.cell 0
  have p1 := b1.cell 1
  have q0 := b2.cell 0
  have q1 := b2.cell 1
  simp at p0 p1 q0 q1
  have l1 := b1.lt
  have l2 := b2.lt
  clear b1 b2 hz hb
  go_wp2_with fail
  go_loop [5] (fun i => i = .int .i64 0) (fun _ => 0)
  case atStart => rfl
  case round =>
    obtain rfl := hrel
    go_wp2_with fail
    go_loop [6] (fun i => i = .int .i64 0) (fun _ => 0)
    case atStart => rfl
    case round =>
      obtain rfl := hrel
      go_wp2_with fail
      go_ret
      exact ⟨rfl, HB.out⟩
set_option maxRecDepth 100000 in
set_option maxHeartbeats 8000000 in
theorem usame1_c (u : Brk) (v1 v2 : Value) (w : World) (h1 : UAt w v1 (some u)) (h2 : UAt w v2 (some u)) : Calls Tryz.prog 8 #[v1, v2] w fun e w' => e = .returned (.bool true) ∧ Below w.heap.size w w' := by
  obtain ⟨ai, al, na, nc, sa, sc, rfl, hai, hal, hta⟩ := h1
  obtain ⟨ci, cl, na', nc', sa', sc', rfl, hci, hcl, htc⟩ := h2
  have cn := impNeq
  obtain ⟨kv, hkv⟩ : ∃ kv : Int, (if u.c.ofType = true then 2 else 1) = kv := ⟨_, rfl⟩
  rw [hkv] at hal hcl
  have AI := Lib.hid hai
  have AL := Lib.hid hal
  have CI := Lib.hid hci
  have CL := Lib.hid hcl
  have TA := Lib.hid hta
  have TC := Lib.hid htc
  obtain ⟨b1, b2, hz, hb⟩ := twoW w #[.slice (some ⟨ai, 0, none⟩) 1 1, .slice (some ⟨al, 0, none⟩) 1 1] #[.slice (some ⟨ci, 0, none⟩) 1 1, .slice (some ⟨cl, 0, none⟩) 1 1] 28 28
  clear hai hal hci hcl hta htc hkv
  go_enter Tryz.func8, Tryz.ntmps8
  go_upto_region 1 with fail
  generalize ((w.alloc (.cells #[.slice (some ⟨ai, 0, none⟩) 1 1, .slice (some ⟨al, 0, none⟩) 1 1] 28)).alloc (.cells #[.slice (some ⟨ci, 0, none⟩) 1 1, .slice (some ⟨cl, 0, none⟩) 1 1] 28)) = W at b1 b2 hz hb ⊢
  have HB := Lib.hid hb
  have P1 := Lib.hid b1
  have P2 := Lib.hid b2
  have p0 := b1.cell 0
  have p1 := b1.cell 1
  have q0 := b2.cell 0
  have q1 := b2.cell 1
  simp at p0 p1 q0 q1
  have l1 := b1.lt
  have l2 := b2.lt
  clear b1 b2 hz hb
  go_wp2_with fail
  go_loopw [5] (fun i wk => ∃ k : Nat, i = .int .i64 k ∧ k ≤ 1 ∧ Below W.heap.size W wk) (fun i _ => 1 - (intOf i).toNat)
  case atStart => exact ⟨0, rfl, Nat.zero_le _, Below.refl _ _⟩
  case round =>
    rename World => wk
    obtain ⟨k, rfl, hk, hbk⟩ := hrel
    have BK := Lib.hid hbk
    have BW := Lib.hid (HB.out.trans (hbk.mono HB.out.size))
    clear p0 p1 q0 q1 l1 l2
    have r1 := P1.out.under hbk P1.out.lt
    have r2 := P2.out.under hbk P2.out.lt
    have p0 := r1.cell 0
    have p1 := r1.cell 1
    have q0 := r2.cell 0
    have q1 := r2.cell 1
    simp at p0 p1 q0 q1
    have l1 := r1.lt
    have l2 := r2.lt
    clear r1 r2 hbk
    by_cases hk1 : k = 0
    · subst hk1
      obtain ⟨i0, i1, i2, i3⟩ := cellsC (AI.out.under BW.out AI.out.lt)
      obtain ⟨j0, j1, j2, j3⟩ := cellsC (CI.out.under BW.out CI.out.lt)
      have li := (AI.out.under BW.out AI.out.lt).lt
      have lj := (CI.out.under BW.out CI.out.lt).lt
      go_wp2_with fail
      go_quiet (fail)
      go_wp2_with fail
      exact ⟨⟨1, by go_num, by omega, below_drewN BK.out _⟩, by simp [intOf]⟩
    · have hkI : ¬ (k : Int) < 1 := by omega
      go_wp2_with fail
      clear hkI p0 p1 q0 q1 l1 l2
      go_loopw [6] (fun i wz => ∃ k : Nat, i = .int .i64 k ∧ k ≤ 1 ∧ Below W.heap.size W wz) (fun i _ => 1 - (intOf i).toNat)
      case atStart => exact ⟨0, rfl, Nat.zero_le _, BK.out⟩
      case round =>
        rename World => wz
        obtain ⟨k, rfl, hk, hbz⟩ := hrel
        have BZ := Lib.hid hbz
        have BV := Lib.hid (HB.out.trans (hbz.mono HB.out.size))
        have R1 := Lib.hid (P1.out.under hbz P1.out.lt)
        have R2 := Lib.hid (P2.out.under hbz P2.out.lt)
        have p0 := R1.out.cell 0
        have p1 := R1.out.cell 1
        have q0 := R2.out.cell 0
        have q1 := R2.out.cell 1
        simp at p0 p1 q0 q1
        have l1 := R1.out.lt
        have l2 := R2.out.lt
        clear hbz
        by_cases hk1 : k = 0
        · subst hk1
          have az := AL.out.under BV.out AL.out.lt
          have cz := CL.out.under BV.out CL.out.lt
          have x0 := az.cell 0
          have x1 := az.cell 1
          have x2 := az.cell 2
          have x3 := az.cell 3
          have x4 := az.cell 4
          have x5 := az.cell 5
          have x6 := az.cell 6
          have x7 := az.cell 7
          have x8 := az.cell 8
          have x9 := az.cell 9
          have y0 := cz.cell 0
          have y1 := cz.cell 1
          have y2 := cz.cell 2
          have y3 := cz.cell 3
          have y4 := cz.cell 4
          have y5 := cz.cell 5
          have y6 := cz.cell 6
          have y7 := cz.cell 7
          have y8 := cz.cell 8
          have y9 := cz.cell 9
          simp at x0 y0 x1 y1 x2 y2 x3 y3 x4 y4 x5 y5 x6 y6 x7 y7 x8 y8 x9 y9
          have la := az.lt
          have lc := cz.lt
          clear az cz
          go_upto_region 13 with fail
          obtain ⟨d1, d2, dz, db⟩ := twoW wz #[.int .i64 kv, .string { data := #[109] }, .string u.c.name, .int .i64 u.t.kind, .string u.t.pkg, .int .i64 u.t.major, .string u.t.mod, .string u.t.name, .slice na u.t.names.length nc, .slice sa u.t.subs.length sc] #[.int .i64 kv, .string { data := #[109] }, .string u.c.name, .int .i64 u.t.kind, .string u.t.pkg, .int .i64 u.t.major, .string u.t.mod, .string u.t.name, .slice na' u.t.names.length nc', .slice sa' u.t.subs.length sc'] 61 61
          generalize ((wz.alloc (.cells #[.int .i64 kv, .string { data := #[109] }, .string u.c.name, .int .i64 u.t.kind, .string u.t.pkg, .int .i64 u.t.major, .string u.t.mod, .string u.t.name, .slice na u.t.names.length nc, .slice sa u.t.subs.length sc] 61)).alloc (.cells #[.int .i64 kv, .string { data := #[109] }, .string u.c.name, .int .i64 u.t.kind, .string u.t.pkg, .int .i64 u.t.major, .string u.t.mod, .string u.t.name, .slice na' u.t.names.length nc', .slice sa' u.t.subs.length sc'] 61)) = W2 at d1 d2 dz db ⊢
          have hgz : w.heap.size ≤ wz.heap.size := BV.out.size
          have hgzW : W.heap.size ≤ wz.heap.size := BZ.out.size
          generalize wz.heap.size = gz at d1 d2 dz db hgz hgzW ⊢
          have D1 := Lib.hid d1
          have D2 := Lib.hid d2
          have hbw : Below w.heap.size w W2 := BV.out.trans (db.mono hgz)
          have BZZ := Lib.hid (BZ.out.trans (db.mono hgzW))
          clear db
          clear p0 p1 q0 q1 l1 l2 la lc x0 y0 x1 y1 x2 y2 x3 y3 x4 y4 x5 y5 x6 y6 x7 y7 x8 y8 x9 y9
          have x0 := d1.cell 0
          have x1 := d1.cell 1
          have x2 := d1.cell 2
          have x3 := d1.cell 3
          have x4 := d1.cell 4
          have x5 := d1.cell 5
          have x6 := d1.cell 6
          have x7 := d1.cell 7
          have x8 := d1.cell 8
          have x9 := d1.cell 9
          have y0 := d2.cell 0
          have y1 := d2.cell 1
          have y2 := d2.cell 2
          have y3 := d2.cell 3
          have y4 := d2.cell 4
          have y5 := d2.cell 5
          have y6 := d2.cell 6
          have y7 := d2.cell 7
          have y8 := d2.cell 8
          have y9 := d2.cell 9
          simp at x0 y0 x1 y1 x2 y2 x3 y3 x4 y4 x5 y5 x6 y6 x7 y7 x8 y8 x9 y9
          have la := d1.lt
          have lc := d2.lt
          have hal : alikeT u.t u.t = true := (alike_iff _ _).2 rfl
          have HS := rSame_c u.t u.t (tyCells u.t na nc sa sc) (tyCells u.t na' nc' sa' sc') w.heap.size W2 (TA.out.under hbw) (TC.out.under hbw) hbw.size
          rw [hal] at HS
          simp only [tyCells] at HS
          have HSS := Lib.hid HS
          have HBW := Lib.hid hbw
          clear d1 d2 dz HS hbw hal
          go_upto_region 14 with (go_at_call 18; refine HSS.out.mono ?_; rintro e W3 ⟨rfl, hb3⟩; have e1 := D1.out.under hb3 D1.out.lt; have e2 := D2.out.under hb3 D2.out.lt; have BFIN := Lib.hid (BZZ.out.trans (hb3.mono BZZ.out.size)); clear x0 y0 x1 y1 x2 y2 x3 y3 x4 y4 x5 y5 x6 y6 x7 y7 x8 y8 x9 y9 la lc)
          have x0 := e1.cell 0
          have x1 := e1.cell 1
          have x2 := e1.cell 2
          have x3 := e1.cell 3
          have x4 := e1.cell 4
          have x5 := e1.cell 5
          have x6 := e1.cell 6
          have x7 := e1.cell 7
          have x8 := e1.cell 8
          have x9 := e1.cell 9
          have y0 := e2.cell 0
          have y1 := e2.cell 1
          have y2 := e2.cell 2
          have y3 := e2.cell 3
          have y4 := e2.cell 4
          have y5 := e2.cell 5
          have y6 := e2.cell 6
          have y7 := e2.cell 7
          have y8 := e2.cell 8
          have y9 := e2.cell 9
          simp at x0 y0 x1 y1 x2 y2 x3 y3 x4 y4 x5 y5 x6 y6 x7 y7 x8 y8 x9 y9
          have la := e1.lt
          have lc := e2.lt
          clear e1 e2
          go_wp2_with fail
          first
            | exact ⟨⟨1, by go_num, by omega, BFIN.out⟩, by simp [intOf]⟩
            | (go_roundw
               case rel => exact ⟨1, by go_num, by omega, BFIN.out⟩
               case measure => simp [intOf])
        · obtain rfl : k = 1 := by omega
          go_wp2_with fail
          go_ret
          exact ⟨rfl, BV.out⟩
end Go.Proofs.YtbffijiecbfpnaaGreatDoor
namespace Go.Proofs.YtbffijiecbfpnaaGreatDoor
open Go.RowKit
set_option linter.unusedSimpArgs false
set_option linter.unusedVariables false
def bT : Ty := .mk 1 { data := #[] } 0 { data := #[] } { data := #[] } [] []
def bF : Nm := ⟨{ data := #[102] }, bT⟩
def bG : Nm := ⟨{ data := #[103] }, bT⟩
def bA : List If := [⟨{ data := #[112] }, 1, { data := #[109] }, [], [bF]⟩]
def bB : List If := [⟨{ data := #[112] }, 1, { data := #[109] }, [], [bF, bG]⟩]
def bZ : List If := [⟨{ data := #[] }, 0, { data := #[] }, [], []⟩]
theorem fair_ab : fairB bA bB = true := by decide +kernel
theorem fair_zb : fairB bZ bB = false := by decide +kernel
theorem few_a : bA.all fewX = true := by decide +kernel
theorem few_b : bB.all fewX = true := by decide +kernel
theorem un_m : unionN [{ data := #[109] }] [{ data := #[109] }] = [{ data := #[109] }] := rise_eq (unionN_rise _ _) (by decide +kernel) fun s => by rw [unionN_mem]; simp
theorem un_0 : unionN [] [] = [] := rise_eq (unionN_rise _ _) (by decide +kernel) fun s => by rw [unionN_mem]; simp
theorem un_n : unionN [{ data := #[102] }] [{ data := #[102] }, { data := #[103] }] = [{ data := #[102] }, { data := #[103] }] := rise_eq (unionN_rise _ _) (by decide +kernel) fun s => by rw [unionN_mem]; simp
theorem chg_ab : chgF bA bB = [⟨4, { data := #[109] }, { data := #[103] }, false⟩] := by
  have e1 : unionN (bA.map If.mod) (bB.map If.mod) = [{ data := #[109] }] := un_m
  have ea : (firstIface bA { data := #[109] }).getD zIf = ⟨{ data := #[112] }, 1, { data := #[109] }, [], [bF]⟩ := by kernel_rfl
  have eb : (firstIface bB { data := #[109] }).getD zIf = ⟨{ data := #[112] }, 1, { data := #[109] }, [], [bF, bG]⟩ := by kernel_rfl
  have ef : oneF { data := #[109] } [bF] [bF, bG] false { data := #[102] } = [] := by kernel_rfl
  have eg : oneF { data := #[109] } [bF] [bF, bG] false { data := #[103] } = [⟨4, { data := #[109] }, { data := #[103] }, false⟩] := by kernel_rfl
  rw [chgF, e1, List.flatMap_cons, List.flatMap_nil, List.append_nil, modF, ea, eb, rowsF, rowsF]
  simp only [List.map_nil, un_0, List.flatMap_nil, List.nil_append, List.map_cons]
  rw [show unionN [bF.name] [bF.name, bG.name] = [{ data := #[102] }, { data := #[103] }] from un_n, List.flatMap_cons, List.flatMap_cons, ef, eg]; rfl
theorem bump_ab : ofF (chgF bA bB) = 2 := by rw [chg_ab]; rfl
theorem eq_err (w : World) : (binOp BinOp.eql 30 (.iface 34 (.int .i64 1)) (.iface 34 (.int .i64 1))).run Tryz.prog w = .ok (.bool true) w := by kernel_rfl
theorem eq_errnil (w : World) : (binOp BinOp.eql 30 (.iface 34 (.int .i64 1)) .nilIface).run Tryz.prog w = .ok (.bool false) w := by kernel_rfl
theorem neq_errnil (w : World) : (binOp BinOp.neq 30 (.iface 34 (.int .i64 1)) .nilIface).run Tryz.prog w = .ok (.bool true) w := by kernel_rfl
theorem bT_c (w : World) (B : Nat) : TyC w B bT (tyCells bT none 0 none 0) :=
  .mk bT none 0 none 0 (fun _ => #[]) ⟨by decide, by decide, by decide, by decide, by decide, by decide, (by intro s h; cases h), by decide⟩ (.inl rfl) (.inl rfl) (Nat.le_refl _) (Nat.le_refl _) (fun i hi => absurd hi (by simp [bT, Ty.subs]))
theorem bN_c (w : World) (B : Nat) (n : Nm) (h : n.name.size ≤ maxLen) (ht : n.ty = bT) : NmC w B n (nmCells n none 0 none 0) := ⟨h, none, 0, none, 0, rfl, by rw [ht]; exact bT_c w B⟩
theorem rows_f {w : World} {b B : Nat} (h : Blk w b #[.string { data := #[102] }, .int .i64 1, .string { data := #[] }, .int .i64 0, .string { data := #[] }, .string { data := #[] }, .slice none 0 0, .slice none 0 0] 43) (hb : b < B) : NmsAt w B (some ⟨b, 0, none⟩) [bF] := by
  refine ⟨fun _ => nmCells bF none 0 none 0, .inr ⟨b, 0, rfl, hb, fun i hi j hj => ?_⟩, fun i hi => ?_⟩
  · obtain rfl : i = 0 := by simp at hi; exact hi
    rw [h.cell]
    have hj : j < 8 := hj
    match j, hj with
    | 0, _ | 1, _ | 2, _ | 3, _ | 4, _ | 5, _ | 6, _ | 7, _ => rfl
  · obtain rfl : i = 0 := by simp at hi; exact hi
    exact bN_c w B bF (by decide) rfl
theorem rows_fg {w : World} {b B : Nat} (h : Blk w b #[.string { data := #[102] }, .int .i64 1, .string { data := #[] }, .int .i64 0, .string { data := #[] }, .string { data := #[] }, .slice none 0 0, .slice none 0 0, .string { data := #[103] }, .int .i64 1, .string { data := #[] }, .int .i64 0, .string { data := #[] }, .string { data := #[] }, .slice none 0 0, .slice none 0 0] 43) (hb : b < B) : NmsAt w B (some ⟨b, 0, none⟩) [bF, bG] := by
  refine ⟨fun i => if i = 0 then nmCells bF none 0 none 0 else nmCells bG none 0 none 0, .inr ⟨b, 0, rfl, hb, fun i hi j hj => ?_⟩, fun i hi => ?_⟩
  · have hi : i < 2 := hi
    match i, hi with
    | 0, _ =>
      rw [h.cell]
      have hj : j < 8 := hj
      match j, hj with
      | 0, _ | 1, _ | 2, _ | 3, _ | 4, _ | 5, _ | 6, _ | 7, _ => rfl
    | 1, _ =>
      rw [h.cell]
      have hj : j < 8 := hj
      match j, hj with
      | 0, _ | 1, _ | 2, _ | 3, _ | 4, _ | 5, _ | 6, _ | 7, _ => rfl
  · have hi : i < 2 := hi
    match i, hi with
    | 0, _ => exact bN_c w B bF (by decide) rfl
    | 1, _ => exact bN_c w B bG (by decide) rfl
theorem row_if {w : World} {b B : Nat} {x : If} {ta : Option Addr} {tc : Nat} {va : Option Addr} {vc : Nat} (h : Blk w b (ifCells x ta tc va vc) 46) (hb : b < B) (hx : IfC w B x (ifCells x ta tc va vc)) : IfsAt w B (some ⟨b, 0, none⟩) [x] := by
  refine ⟨fun _ => ifCells x ta tc va vc, .inr ⟨b, 0, rfl, hb, fun i hi j hj => ?_⟩, fun i hi => ?_⟩
  · obtain rfl : i = 0 := by simp at hi; exact hi
    rw [h.cell]
    simp
  · obtain rfl : i = 0 := by simp at hi; exact hi
    exact hx
theorem six (w : World) : Blk ((((((w.alloc (.cells #[.string { data := #[102] }, .int .i64 1, .string { data := #[] }, .int .i64 0, .string { data := #[] }, .string { data := #[] }, .slice none 0 0, .slice none 0 0] 43)).alloc (.cells #[.string { data := #[103] }, .int .i64 1, .string { data := #[] }, .int .i64 0, .string { data := #[] }, .string { data := #[] }, .slice none 0 0, .slice none 0 0] 43)).alloc (.cells #[.string { data := #[102] }, .int .i64 1, .string { data := #[] }, .int .i64 0, .string { data := #[] }, .string { data := #[] }, .slice none 0 0, .slice none 0 0] 43)).alloc (.cells #[.string { data := #[112] }, .int .i64 1, .string { data := #[109] }, .slice none 0 0, .slice (some ⟨w.heap.size + 1 + 1, 0, none⟩) 1 1] 46)).alloc (.cells #[.string { data := #[102] }, .int .i64 1, .string { data := #[] }, .int .i64 0, .string { data := #[] }, .string { data := #[] }, .slice none 0 0, .slice none 0 0, .string { data := #[103] }, .int .i64 1, .string { data := #[] }, .int .i64 0, .string { data := #[] }, .string { data := #[] }, .slice none 0 0, .slice none 0 0] 43)).alloc (.cells #[.string { data := #[112] }, .int .i64 1, .string { data := #[109] }, .slice none 0 0, .slice (some ⟨w.heap.size + 1 + 1 + 1 + 1, 0, none⟩) 2 2] 46)) (w.heap.size + 1 + 1) #[.string { data := #[102] }, .int .i64 1, .string { data := #[] }, .int .i64 0, .string { data := #[] }, .string { data := #[] }, .slice none 0 0, .slice none 0 0] 43 ∧ Blk ((((((w.alloc (.cells #[.string { data := #[102] }, .int .i64 1, .string { data := #[] }, .int .i64 0, .string { data := #[] }, .string { data := #[] }, .slice none 0 0, .slice none 0 0] 43)).alloc (.cells #[.string { data := #[103] }, .int .i64 1, .string { data := #[] }, .int .i64 0, .string { data := #[] }, .string { data := #[] }, .slice none 0 0, .slice none 0 0] 43)).alloc (.cells #[.string { data := #[102] }, .int .i64 1, .string { data := #[] }, .int .i64 0, .string { data := #[] }, .string { data := #[] }, .slice none 0 0, .slice none 0 0] 43)).alloc (.cells #[.string { data := #[112] }, .int .i64 1, .string { data := #[109] }, .slice none 0 0, .slice (some ⟨w.heap.size + 1 + 1, 0, none⟩) 1 1] 46)).alloc (.cells #[.string { data := #[102] }, .int .i64 1, .string { data := #[] }, .int .i64 0, .string { data := #[] }, .string { data := #[] }, .slice none 0 0, .slice none 0 0, .string { data := #[103] }, .int .i64 1, .string { data := #[] }, .int .i64 0, .string { data := #[] }, .string { data := #[] }, .slice none 0 0, .slice none 0 0] 43)).alloc (.cells #[.string { data := #[112] }, .int .i64 1, .string { data := #[109] }, .slice none 0 0, .slice (some ⟨w.heap.size + 1 + 1 + 1 + 1, 0, none⟩) 2 2] 46)) (w.heap.size + 1 + 1 + 1) #[.string { data := #[112] }, .int .i64 1, .string { data := #[109] }, .slice none 0 0, .slice (some ⟨w.heap.size + 1 + 1, 0, none⟩) 1 1] 46 ∧ Blk ((((((w.alloc (.cells #[.string { data := #[102] }, .int .i64 1, .string { data := #[] }, .int .i64 0, .string { data := #[] }, .string { data := #[] }, .slice none 0 0, .slice none 0 0] 43)).alloc (.cells #[.string { data := #[103] }, .int .i64 1, .string { data := #[] }, .int .i64 0, .string { data := #[] }, .string { data := #[] }, .slice none 0 0, .slice none 0 0] 43)).alloc (.cells #[.string { data := #[102] }, .int .i64 1, .string { data := #[] }, .int .i64 0, .string { data := #[] }, .string { data := #[] }, .slice none 0 0, .slice none 0 0] 43)).alloc (.cells #[.string { data := #[112] }, .int .i64 1, .string { data := #[109] }, .slice none 0 0, .slice (some ⟨w.heap.size + 1 + 1, 0, none⟩) 1 1] 46)).alloc (.cells #[.string { data := #[102] }, .int .i64 1, .string { data := #[] }, .int .i64 0, .string { data := #[] }, .string { data := #[] }, .slice none 0 0, .slice none 0 0, .string { data := #[103] }, .int .i64 1, .string { data := #[] }, .int .i64 0, .string { data := #[] }, .string { data := #[] }, .slice none 0 0, .slice none 0 0] 43)).alloc (.cells #[.string { data := #[112] }, .int .i64 1, .string { data := #[109] }, .slice none 0 0, .slice (some ⟨w.heap.size + 1 + 1 + 1 + 1, 0, none⟩) 2 2] 46)) (w.heap.size + 1 + 1 + 1 + 1) #[.string { data := #[102] }, .int .i64 1, .string { data := #[] }, .int .i64 0, .string { data := #[] }, .string { data := #[] }, .slice none 0 0, .slice none 0 0, .string { data := #[103] }, .int .i64 1, .string { data := #[] }, .int .i64 0, .string { data := #[] }, .string { data := #[] }, .slice none 0 0, .slice none 0 0] 43 ∧ Blk ((((((w.alloc (.cells #[.string { data := #[102] }, .int .i64 1, .string { data := #[] }, .int .i64 0, .string { data := #[] }, .string { data := #[] }, .slice none 0 0, .slice none 0 0] 43)).alloc (.cells #[.string { data := #[103] }, .int .i64 1, .string { data := #[] }, .int .i64 0, .string { data := #[] }, .string { data := #[] }, .slice none 0 0, .slice none 0 0] 43)).alloc (.cells #[.string { data := #[102] }, .int .i64 1, .string { data := #[] }, .int .i64 0, .string { data := #[] }, .string { data := #[] }, .slice none 0 0, .slice none 0 0] 43)).alloc (.cells #[.string { data := #[112] }, .int .i64 1, .string { data := #[109] }, .slice none 0 0, .slice (some ⟨w.heap.size + 1 + 1, 0, none⟩) 1 1] 46)).alloc (.cells #[.string { data := #[102] }, .int .i64 1, .string { data := #[] }, .int .i64 0, .string { data := #[] }, .string { data := #[] }, .slice none 0 0, .slice none 0 0, .string { data := #[103] }, .int .i64 1, .string { data := #[] }, .int .i64 0, .string { data := #[] }, .string { data := #[] }, .slice none 0 0, .slice none 0 0] 43)).alloc (.cells #[.string { data := #[112] }, .int .i64 1, .string { data := #[109] }, .slice none 0 0, .slice (some ⟨w.heap.size + 1 + 1 + 1 + 1, 0, none⟩) 2 2] 46)) (w.heap.size + 1 + 1 + 1 + 1 + 1) #[.string { data := #[112] }, .int .i64 1, .string { data := #[109] }, .slice none 0 0, .slice (some ⟨w.heap.size + 1 + 1 + 1 + 1, 0, none⟩) 2 2] 46 ∧ (((((((w.alloc (.cells #[.string { data := #[102] }, .int .i64 1, .string { data := #[] }, .int .i64 0, .string { data := #[] }, .string { data := #[] }, .slice none 0 0, .slice none 0 0] 43)).alloc (.cells #[.string { data := #[103] }, .int .i64 1, .string { data := #[] }, .int .i64 0, .string { data := #[] }, .string { data := #[] }, .slice none 0 0, .slice none 0 0] 43)).alloc (.cells #[.string { data := #[102] }, .int .i64 1, .string { data := #[] }, .int .i64 0, .string { data := #[] }, .string { data := #[] }, .slice none 0 0, .slice none 0 0] 43)).alloc (.cells #[.string { data := #[112] }, .int .i64 1, .string { data := #[109] }, .slice none 0 0, .slice (some ⟨w.heap.size + 1 + 1, 0, none⟩) 1 1] 46)).alloc (.cells #[.string { data := #[102] }, .int .i64 1, .string { data := #[] }, .int .i64 0, .string { data := #[] }, .string { data := #[] }, .slice none 0 0, .slice none 0 0, .string { data := #[103] }, .int .i64 1, .string { data := #[] }, .int .i64 0, .string { data := #[] }, .string { data := #[] }, .slice none 0 0, .slice none 0 0] 43)).alloc (.cells #[.string { data := #[112] }, .int .i64 1, .string { data := #[109] }, .slice none 0 0, .slice (some ⟨w.heap.size + 1 + 1 + 1 + 1, 0, none⟩) 2 2] 46))).heap.size = w.heap.size + 1 + 1 + 1 + 1 + 1 + 1 ∧ Below w.heap.size w ((((((w.alloc (.cells #[.string { data := #[102] }, .int .i64 1, .string { data := #[] }, .int .i64 0, .string { data := #[] }, .string { data := #[] }, .slice none 0 0, .slice none 0 0] 43)).alloc (.cells #[.string { data := #[103] }, .int .i64 1, .string { data := #[] }, .int .i64 0, .string { data := #[] }, .string { data := #[] }, .slice none 0 0, .slice none 0 0] 43)).alloc (.cells #[.string { data := #[102] }, .int .i64 1, .string { data := #[] }, .int .i64 0, .string { data := #[] }, .string { data := #[] }, .slice none 0 0, .slice none 0 0] 43)).alloc (.cells #[.string { data := #[112] }, .int .i64 1, .string { data := #[109] }, .slice none 0 0, .slice (some ⟨w.heap.size + 1 + 1, 0, none⟩) 1 1] 46)).alloc (.cells #[.string { data := #[102] }, .int .i64 1, .string { data := #[] }, .int .i64 0, .string { data := #[] }, .string { data := #[] }, .slice none 0 0, .slice none 0 0, .string { data := #[103] }, .int .i64 1, .string { data := #[] }, .int .i64 0, .string { data := #[] }, .string { data := #[] }, .slice none 0 0, .slice none 0 0] 43)).alloc (.cells #[.string { data := #[112] }, .int .i64 1, .string { data := #[109] }, .slice none 0 0, .slice (some ⟨w.heap.size + 1 + 1 + 1 + 1, 0, none⟩) 2 2] 46)) := by
  have z1 : ((w.alloc (.cells #[.string { data := #[102] }, .int .i64 1, .string { data := #[] }, .int .i64 0, .string { data := #[] }, .string { data := #[] }, .slice none 0 0, .slice none 0 0] 43))).heap.size = w.heap.size + 1 := by simp
  have z2 : (((w.alloc (.cells #[.string { data := #[102] }, .int .i64 1, .string { data := #[] }, .int .i64 0, .string { data := #[] }, .string { data := #[] }, .slice none 0 0, .slice none 0 0] 43)).alloc (.cells #[.string { data := #[103] }, .int .i64 1, .string { data := #[] }, .int .i64 0, .string { data := #[] }, .string { data := #[] }, .slice none 0 0, .slice none 0 0] 43))).heap.size = w.heap.size + 1 + 1 := by simp
  have z3 : ((((w.alloc (.cells #[.string { data := #[102] }, .int .i64 1, .string { data := #[] }, .int .i64 0, .string { data := #[] }, .string { data := #[] }, .slice none 0 0, .slice none 0 0] 43)).alloc (.cells #[.string { data := #[103] }, .int .i64 1, .string { data := #[] }, .int .i64 0, .string { data := #[] }, .string { data := #[] }, .slice none 0 0, .slice none 0 0] 43)).alloc (.cells #[.string { data := #[102] }, .int .i64 1, .string { data := #[] }, .int .i64 0, .string { data := #[] }, .string { data := #[] }, .slice none 0 0, .slice none 0 0] 43))).heap.size = w.heap.size + 1 + 1 + 1 := by simp
  have z4 : (((((w.alloc (.cells #[.string { data := #[102] }, .int .i64 1, .string { data := #[] }, .int .i64 0, .string { data := #[] }, .string { data := #[] }, .slice none 0 0, .slice none 0 0] 43)).alloc (.cells #[.string { data := #[103] }, .int .i64 1, .string { data := #[] }, .int .i64 0, .string { data := #[] }, .string { data := #[] }, .slice none 0 0, .slice none 0 0] 43)).alloc (.cells #[.string { data := #[102] }, .int .i64 1, .string { data := #[] }, .int .i64 0, .string { data := #[] }, .string { data := #[] }, .slice none 0 0, .slice none 0 0] 43)).alloc (.cells #[.string { data := #[112] }, .int .i64 1, .string { data := #[109] }, .slice none 0 0, .slice (some ⟨w.heap.size + 1 + 1, 0, none⟩) 1 1] 46))).heap.size = w.heap.size + 1 + 1 + 1 + 1 := by simp
  have z5 : ((((((w.alloc (.cells #[.string { data := #[102] }, .int .i64 1, .string { data := #[] }, .int .i64 0, .string { data := #[] }, .string { data := #[] }, .slice none 0 0, .slice none 0 0] 43)).alloc (.cells #[.string { data := #[103] }, .int .i64 1, .string { data := #[] }, .int .i64 0, .string { data := #[] }, .string { data := #[] }, .slice none 0 0, .slice none 0 0] 43)).alloc (.cells #[.string { data := #[102] }, .int .i64 1, .string { data := #[] }, .int .i64 0, .string { data := #[] }, .string { data := #[] }, .slice none 0 0, .slice none 0 0] 43)).alloc (.cells #[.string { data := #[112] }, .int .i64 1, .string { data := #[109] }, .slice none 0 0, .slice (some ⟨w.heap.size + 1 + 1, 0, none⟩) 1 1] 46)).alloc (.cells #[.string { data := #[102] }, .int .i64 1, .string { data := #[] }, .int .i64 0, .string { data := #[] }, .string { data := #[] }, .slice none 0 0, .slice none 0 0, .string { data := #[103] }, .int .i64 1, .string { data := #[] }, .int .i64 0, .string { data := #[] }, .string { data := #[] }, .slice none 0 0, .slice none 0 0] 43))).heap.size = w.heap.size + 1 + 1 + 1 + 1 + 1 := by simp
  have b2 := Blk.new ((w.alloc (.cells #[.string { data := #[102] }, .int .i64 1, .string { data := #[] }, .int .i64 0, .string { data := #[] }, .string { data := #[] }, .slice none 0 0, .slice none 0 0] 43)).alloc (.cells #[.string { data := #[103] }, .int .i64 1, .string { data := #[] }, .int .i64 0, .string { data := #[] }, .string { data := #[] }, .slice none 0 0, .slice none 0 0] 43)) #[.string { data := #[102] }, .int .i64 1, .string { data := #[] }, .int .i64 0, .string { data := #[] }, .string { data := #[] }, .slice none 0 0, .slice none 0 0] 43
  have b3 := Blk.new (((w.alloc (.cells #[.string { data := #[102] }, .int .i64 1, .string { data := #[] }, .int .i64 0, .string { data := #[] }, .string { data := #[] }, .slice none 0 0, .slice none 0 0] 43)).alloc (.cells #[.string { data := #[103] }, .int .i64 1, .string { data := #[] }, .int .i64 0, .string { data := #[] }, .string { data := #[] }, .slice none 0 0, .slice none 0 0] 43)).alloc (.cells #[.string { data := #[102] }, .int .i64 1, .string { data := #[] }, .int .i64 0, .string { data := #[] }, .string { data := #[] }, .slice none 0 0, .slice none 0 0] 43)) #[.string { data := #[112] }, .int .i64 1, .string { data := #[109] }, .slice none 0 0, .slice (some ⟨w.heap.size + 1 + 1, 0, none⟩) 1 1] 46
  have b4 := Blk.new ((((w.alloc (.cells #[.string { data := #[102] }, .int .i64 1, .string { data := #[] }, .int .i64 0, .string { data := #[] }, .string { data := #[] }, .slice none 0 0, .slice none 0 0] 43)).alloc (.cells #[.string { data := #[103] }, .int .i64 1, .string { data := #[] }, .int .i64 0, .string { data := #[] }, .string { data := #[] }, .slice none 0 0, .slice none 0 0] 43)).alloc (.cells #[.string { data := #[102] }, .int .i64 1, .string { data := #[] }, .int .i64 0, .string { data := #[] }, .string { data := #[] }, .slice none 0 0, .slice none 0 0] 43)).alloc (.cells #[.string { data := #[112] }, .int .i64 1, .string { data := #[109] }, .slice none 0 0, .slice (some ⟨w.heap.size + 1 + 1, 0, none⟩) 1 1] 46)) #[.string { data := #[102] }, .int .i64 1, .string { data := #[] }, .int .i64 0, .string { data := #[] }, .string { data := #[] }, .slice none 0 0, .slice none 0 0, .string { data := #[103] }, .int .i64 1, .string { data := #[] }, .int .i64 0, .string { data := #[] }, .string { data := #[] }, .slice none 0 0, .slice none 0 0] 43
  have b5 := Blk.new (((((w.alloc (.cells #[.string { data := #[102] }, .int .i64 1, .string { data := #[] }, .int .i64 0, .string { data := #[] }, .string { data := #[] }, .slice none 0 0, .slice none 0 0] 43)).alloc (.cells #[.string { data := #[103] }, .int .i64 1, .string { data := #[] }, .int .i64 0, .string { data := #[] }, .string { data := #[] }, .slice none 0 0, .slice none 0 0] 43)).alloc (.cells #[.string { data := #[102] }, .int .i64 1, .string { data := #[] }, .int .i64 0, .string { data := #[] }, .string { data := #[] }, .slice none 0 0, .slice none 0 0] 43)).alloc (.cells #[.string { data := #[112] }, .int .i64 1, .string { data := #[109] }, .slice none 0 0, .slice (some ⟨w.heap.size + 1 + 1, 0, none⟩) 1 1] 46)).alloc (.cells #[.string { data := #[102] }, .int .i64 1, .string { data := #[] }, .int .i64 0, .string { data := #[] }, .string { data := #[] }, .slice none 0 0, .slice none 0 0, .string { data := #[103] }, .int .i64 1, .string { data := #[] }, .int .i64 0, .string { data := #[] }, .string { data := #[] }, .slice none 0 0, .slice none 0 0] 43)) #[.string { data := #[112] }, .int .i64 1, .string { data := #[109] }, .slice none 0 0, .slice (some ⟨w.heap.size + 1 + 1 + 1 + 1, 0, none⟩) 2 2] 46
  rw [z2] at b2
  rw [z3] at b3
  rw [z4] at b4
  rw [z5] at b5
  exact ⟨((b2.alloc _).alloc _).alloc _, (b3.alloc _).alloc _, b4.alloc _, b5, by simp, ((((((Below.refl w.heap.size w).alloc (Nat.le_refl _) _).alloc (by simp) _).alloc (by simp; omega) _).alloc (by simp; omega) _).alloc (by simp; omega) _).alloc (by simp; omega) _⟩
theorem no_rows {A A' : Option Addr} {w : World} {B : Nat} {l : List Nm} (h : NmsAt w B A l) : NmsAt w B A l := h
end Go.Proofs.YtbffijiecbfpnaaGreatDoor
namespace Go.Proofs
open Go.Shelf
def Tryz.lays169_ren : Go.Shelf.Ren := ⟨fun | 169 => 25 | n => n, fun | 70 => 68 | 9 => 9 | 0 => 0 | 72 => 71 | 37 => 69 | 127 => 96 | 3 => 3 | 5 => 5 | n => n, fun | n => n⟩
theorem Tryz.lays169 : Go.Proofs.Lays.n169 Tryz.prog Tryz.lays169_ren := {
  mixed := by kernel_rfl
  f169 := Tryz.func25.trans (congrArg some (by kernel_rfl))
  t0 := Tryz.underlying0
  a0 := Tryz.isAgg0
  z0 := Tryz.sizeOf0
  v0 := Tryz.zeroValue0
  t3 := Tryz.underlying3
  a3 := Tryz.isAgg3
  z3 := Tryz.sizeOf3
  v3 := Tryz.zeroValue3
  t9 := Tryz.underlying9
  a9 := Tryz.isAgg9
  z9 := Tryz.sizeOf9
  v9 := Tryz.zeroValue9
  t37 := Tryz.underlying69
  a37 := Tryz.isAgg69
  z37 := Tryz.sizeOf69
  v37 := Tryz.zeroValue69
  t70 := Tryz.underlying68
  a70 := Tryz.isAgg68
  z70 := Tryz.sizeOf68
  v70 := Tryz.zeroValue68
  t72 := Tryz.underlying71
  a72 := Tryz.isAgg71
  z72 := Tryz.sizeOf71
  v72 := Tryz.zeroValue71
  t127 := Tryz.underlying96
  a127 := Tryz.isAgg96
  z127 := Tryz.sizeOf96
  v127 := Tryz.zeroValue96 }
theorem Tryz.Builder_Extra_169 : Builder.Extra Tryz.prog Tryz.lays169_ren := {
  sizeBuilder := by kernel_rfl
  liesBuilder := by kernel_rfl
  t5 := Tryz.underlying5
  a5 := Tryz.isAgg5
  z5 := Tryz.sizeOf5
  v5 := Tryz.zeroValue5
  infoByte := by kernel_rfl
  cellsByte := by kernel_rfl
  sizeByte := by kernel_rfl
  neB5 := by decide }
open Go.RowKit in
/-- (*strings.Builder).String: "String returns the accumulated string.": OF A BUILDER THAT HOLDS AT LEAST ONE BYTE. ✋ THE MODEL FREEZES THOSE BYTES IN THE BUFFER (unsafe.String): a later write INTO them ends the model's run without an answer; a later append BEHIND them goes on. The statement's order of evaluation is drawn: one draw. (LAID: no walk: one application.) -/
theorem Tryz.Builder_String (B b : Nat) (l : List UInt8) (w : World) (h : Lib.IsBuilder 71 5 B b (Lib.byteCells l) w) (h0 : l ≠ []) :
    Calls Tryz.prog 25 #[.pointer (some ⟨b, 0, none⟩)] w fun e w' => e = .returned (.string ⟨l.toArray⟩) ∧ Below B w w' := Any.Builder_String Tryz.lays169 Tryz.Builder_Extra_169 B b l w h h0
def Tryz.lays171_ren : Go.Shelf.Ren := ⟨fun | 171 => 23 | 243 => 47 | 246 => 66 | 283 => 86 | 284 => 87 | 285 => 88 | 286 => 89 | 129 => 103 | 317 => 112 | 318 => 113 | 319 => 114 | 320 => 115 | 337 => 131 | 338 => 132 | n => n, fun | 3 => 3 | 9 => 9 | 2 => 2 | 4 => 4 | 171 => 123 | 0 => 0 | 53 => 124 | 37 => 69 | 5 => 5 | 173 => 127 | 212 => 148 | 51 => 141 | 20 => 20 | 213 => 149 | 46 => 118 | 232 => 168 | 233 => 169 | n => n, fun | 17 => 0 | 18 => 1 | 19 => 2 | n => n⟩
theorem Tryz.lays171 : Go.Proofs.Lays.n171 Tryz.prog Tryz.lays171_ren := {
  mixed := by kernel_rfl
  f129 := Tryz.func103.trans (congrArg some (by kernel_rfl))
  f171 := Tryz.func23.trans (congrArg some (by kernel_rfl))
  f243 := Tryz.func47.trans (congrArg some (by kernel_rfl))
  f246 := Tryz.func66.trans (congrArg some (by kernel_rfl))
  f283 := Tryz.func86.trans (congrArg some (by kernel_rfl))
  f284 := Tryz.func87.trans (congrArg some (by kernel_rfl))
  f285 := Tryz.func88.trans (congrArg some (by kernel_rfl))
  f286 := Tryz.func89.trans (congrArg some (by kernel_rfl))
  f317 := Tryz.func112.trans (congrArg some (by kernel_rfl))
  f318 := Tryz.func113.trans (congrArg some (by kernel_rfl))
  f319 := Tryz.func114.trans (congrArg some (by kernel_rfl))
  f320 := Tryz.func115.trans (congrArg some (by kernel_rfl))
  f337 := Tryz.func131.trans (congrArg some (by kernel_rfl))
  f338 := Tryz.func132.trans (congrArg some (by kernel_rfl))
  t0 := Tryz.underlying0
  a0 := Tryz.isAgg0
  z0 := Tryz.sizeOf0
  v0 := Tryz.zeroValue0
  t2 := Tryz.underlying2
  a2 := Tryz.isAgg2
  z2 := Tryz.sizeOf2
  v2 := Tryz.zeroValue2
  t3 := Tryz.underlying3
  a3 := Tryz.isAgg3
  z3 := Tryz.sizeOf3
  v3 := Tryz.zeroValue3
  t4 := Tryz.underlying4
  a4 := Tryz.isAgg4
  z4 := Tryz.sizeOf4
  v4 := Tryz.zeroValue4
  t5 := Tryz.underlying5
  a5 := Tryz.isAgg5
  z5 := Tryz.sizeOf5
  v5 := Tryz.zeroValue5
  t9 := Tryz.underlying9
  a9 := Tryz.isAgg9
  z9 := Tryz.sizeOf9
  v9 := Tryz.zeroValue9
  t20 := Tryz.underlying20
  a20 := Tryz.isAgg20
  z20 := Tryz.sizeOf20
  v20 := Tryz.zeroValue20
  t37 := Tryz.underlying69
  a37 := Tryz.isAgg69
  z37 := Tryz.sizeOf69
  v37 := Tryz.zeroValue69
  t46 := Tryz.underlying118
  a46 := Tryz.isAgg118
  z46 := Tryz.sizeOf118
  v46 := Tryz.zeroValue118
  t51 := Tryz.underlying141
  a51 := Tryz.isAgg141
  z51 := Tryz.sizeOf141
  v51 := Tryz.zeroValue141
  t53 := Tryz.underlying124
  a53 := Tryz.isAgg124
  z53 := Tryz.sizeOf124
  v53 := Tryz.zeroValue124
  t171 := Tryz.underlying123
  a171 := Tryz.isAgg123
  z171 := Tryz.sizeOf123
  v171 := Tryz.zeroValue123
  t173 := Tryz.underlying127
  a173 := Tryz.isAgg127
  z173 := Tryz.sizeOf127
  v173 := Tryz.zeroValue127
  t212 := Tryz.underlying148
  a212 := Tryz.isAgg148
  z212 := Tryz.sizeOf148
  v212 := Tryz.zeroValue148
  t213 := Tryz.underlying149
  a213 := Tryz.isAgg149
  z213 := Tryz.sizeOf149
  t232 := Tryz.underlying168
  a232 := Tryz.isAgg168
  z232 := Tryz.sizeOf168
  v232 := Tryz.zeroValue168
  t233 := Tryz.underlying169
  a233 := Tryz.isAgg169
  z233 := Tryz.sizeOf169
  v233 := Tryz.zeroValue169
  g17 := by kernel_rfl
  g18 := by kernel_rfl
  g19 := by kernel_rfl }
open Go.RowKit Go.Sort Go.Lib in
/-- THE ROAD WITHOUT THE TABLE: 0 <= i < 100: NO PREMISE ON THE WORLD, AND THE WORLD IS AS IT WAS: a row that keeps its argument in that range need list no table ('laid = []'). (LAID: no walk: one application.) -/
theorem Tryz.strconv_Itoa_small (i : Nat) (hi : i < 100) (w : World) :
    Calls Tryz.prog 23 #[.int .i64 i] w fun e w' => e = .returned (.string ⟨(Lib.decDigits i).toArray⟩) ∧ w' = w := Any.strconv_Itoa_small Tryz.lays171 i hi w
end Go.Proofs
namespace Go.Proofs
open Go.Shelf
def Tryz.laysW_ren : Go.Shelf.Ren := ⟨fun | 166 => 22 | 240 => 46 | 276 => 65 | n => n, fun | 0 => 0 | 3 => 3 | 4 => 4 | 5 => 5 | 9 => 9 | 20 => 20 | 37 => 69 | 70 => 68 | 72 => 71 | 75 => 30 | 80 => 76 | 164 => 108 | n => n, fun | n => n⟩
theorem Tryz.laysW : Go.Proofs.Lays.n166 Tryz.prog Tryz.laysW_ren := {
  mixed := by kernel_rfl
  f166 := Tryz.func22.trans (congrArg some (by kernel_rfl))
  f240 := Tryz.func46.trans (congrArg some (by kernel_rfl))
  f276 := Tryz.func65.trans (congrArg some (by kernel_rfl))
  t0 := Tryz.underlying0
  a0 := Tryz.isAgg0
  z0 := Tryz.sizeOf0
  v0 := Tryz.zeroValue0
  t3 := Tryz.underlying3
  a3 := Tryz.isAgg3
  z3 := Tryz.sizeOf3
  v3 := Tryz.zeroValue3
  t4 := Tryz.underlying4
  a4 := Tryz.isAgg4
  z4 := Tryz.sizeOf4
  v4 := Tryz.zeroValue4
  t9 := Tryz.underlying9
  a9 := Tryz.isAgg9
  z9 := Tryz.sizeOf9
  v9 := Tryz.zeroValue9
  t20 := Tryz.underlying20
  a20 := Tryz.isAgg20
  z20 := Tryz.sizeOf20
  v20 := Tryz.zeroValue20
  t37 := Tryz.underlying69
  a37 := Tryz.isAgg69
  z37 := Tryz.sizeOf69
  v37 := Tryz.zeroValue69
  t70 := Tryz.underlying68
  a70 := Tryz.isAgg68
  z70 := Tryz.sizeOf68
  v70 := Tryz.zeroValue68
  t72 := Tryz.underlying71
  a72 := Tryz.isAgg71
  z72 := Tryz.sizeOf71
  v72 := Tryz.zeroValue71
  t75 := Tryz.underlying30
  a75 := Tryz.isAgg30
  z75 := Tryz.sizeOf30
  v75 := Tryz.zeroValue30
  t164 := Tryz.underlying108
  a164 := Tryz.isAgg108
  z164 := Tryz.sizeOf108
  v164 := Tryz.zeroValue108 }
theorem Tryz.extraW : Builder.Extra Tryz.prog Tryz.laysW_ren := {
  sizeBuilder := by kernel_rfl
  liesBuilder := by kernel_rfl
  t5 := Tryz.underlying5
  a5 := Tryz.isAgg5
  z5 := Tryz.sizeOf5
  v5 := Tryz.zeroValue5
  infoByte := by kernel_rfl
  cellsByte := by kernel_rfl
  sizeByte := by kernel_rfl
  neB5 := by decide }
end Go.Proofs
namespace Go.Proofs.YtbffijiecbfpnaaGreatDoor
open Go.RowKit Go.Shelf
theorem write_c (B b : Nat) (bs : List Value) (s : ByteArray) (w : World) (h : Lib.IsBuilder 71 5 B b bs w) (hlen : bs.length + s.size ≤ 140737488355328) (hBw : B ≤ w.heap.size) :
    Calls Tryz.prog 22 #[.pointer (some ⟨b, 0, none⟩), .string s] w fun e w' => e = .returned (.tuple #[.int .i64 s.size, .nilIface]) ∧ (Lib.BuilderAt 71 5 B b (.pointer (some ⟨b, 0, none⟩)) (bs ++ Lib.strCells s) w' ∧ Below B w w') :=
  Any.Builder_WriteString Tryz.laysW Tryz.extraW B b bs s w h hlen hBw
end Go.Proofs.YtbffijiecbfpnaaGreatDoor
namespace Go.Proofs.YtbffijiecbfpnaaGreatDoor
open Go.RowKit
set_option linter.unusedSimpArgs false
set_option linter.unusedVariables false
theorem small_p : smallB { data := #[112] } = true := by decide +kernel
theorem small_m : smallB { data := #[109] } = true := by decide +kernel
theorem small_f : smallB { data := #[102] } = true := by decide +kernel
theorem smallP (w : World) : Calls Tryz.prog 61 #[.string { data := #[112] }] w fun e w' => e = .returned (.bool true) ∧ Below w.heap.size w w' := small_p ▸ Small_c { data := #[112] } w (by decide)
theorem smallM (w : World) : Calls Tryz.prog 61 #[.string { data := #[109] }] w fun e w' => e = .returned (.bool true) ∧ Below w.heap.size w w' := small_m ▸ Small_c { data := #[109] } w (by decide)
theorem smallF (w : World) : Calls Tryz.prog 61 #[.string { data := #[102] }] w fun e w' => e = .returned (.bool true) ∧ Below w.heap.size w w' := small_f ▸ Small_c { data := #[102] } w (by decide)
set_option maxHeartbeats 4000000 in
theorem imp0_c (w : World) : Calls Tryz.prog 41 #[.agg #[.string { data := #[112] }, .int .i64 1, .string { data := #[109] }, .string { data := #[109] }]] w fun e w' => e = .returned (.bool true) ∧ Below w.heap.size w w' := by
  have D0 := Lib.hid (Blk.new w #[.string { data := #[112] }, .int .i64 1, .string { data := #[109] }, .string { data := #[109] }] 63)
  have A0 := Lib.hid ((Below.refl w.heap.size w).alloc (Nat.le_refl _) (.cells #[.string { data := #[112] }, .int .i64 1, .string { data := #[109] }, .string { data := #[109] }] 63))
  go_enter Tryz.func41, Tryz.ntmps41
  go_upto_region 1 with fail
  generalize w.alloc (.cells #[.string { data := #[112] }, .int .i64 1, .string { data := #[109] }, .string { data := #[109] }] 63) = W at D0 A0 ⊢
  have k0 := D0.out.cell 0
  have k1 := D0.out.cell 1
  have k2 := D0.out.cell 2
  have k3 := D0.out.cell 3
  simp at k0 k1 k2 k3
  have kl := D0.out.lt
  go_wp2_with (first
    | (have h0 := A2; go_at_call 61; refine (smallM _).mono ?_; rintro e w3 ⟨rfl, hb⟩; have A3 := Lib.hid (A2.out.trans (hb.mono A2.out.size)); have D3 := Lib.hid (D2.out.under hb D2.out.lt); clear hb; clear k0 k1 k2 k3 kl; have k0 := D3.out.cell 0; have k1 := D3.out.cell 1; have k2 := D3.out.cell 2; have k3 := D3.out.cell 3; simp at k0 k1 k2 k3; have kl := D3.out.lt)
    | (have h0 := A1; go_at_call 61; refine (smallM _).mono ?_; rintro e w2 ⟨rfl, hb⟩; have A2 := Lib.hid (A1.out.trans (hb.mono A1.out.size)); have D2 := Lib.hid (D1.out.under hb D1.out.lt); clear hb; clear k0 k1 k2 k3 kl; have k0 := D2.out.cell 0; have k1 := D2.out.cell 1; have k2 := D2.out.cell 2; have k3 := D2.out.cell 3; simp at k0 k1 k2 k3; have kl := D2.out.lt)
    | (go_at_call 61; refine (smallP _).mono ?_; rintro e w1 ⟨rfl, hb⟩; have A1 := Lib.hid (A0.out.trans (hb.mono A0.out.size)); have D1 := Lib.hid (D0.out.under hb D0.out.lt); clear hb; clear k0 k1 k2 k3 kl; have k0 := D1.out.cell 0; have k1 := D1.out.cell 1; have k2 := D1.out.cell 2; have k3 := D1.out.cell 3; simp at k0 k1 k2 k3; have kl := D1.out.lt))
  go_ret
  exact ⟨rfl, A3.out⟩
set_option maxHeartbeats 4000000 in
theorem imp1_c (w : World) : Calls Tryz.prog 40 #[.agg #[.string { data := #[112] }, .int .i64 1, .string { data := #[109] }, .string { data := #[109] }]] w fun e w' => e = .returned (.bool false) ∧ Below w.heap.size w w' := by
  have D0 := Lib.hid (Blk.new w #[.string { data := #[112] }, .int .i64 1, .string { data := #[109] }, .string { data := #[109] }] 63)
  have A0 := Lib.hid ((Below.refl w.heap.size w).alloc (Nat.le_refl _) (.cells #[.string { data := #[112] }, .int .i64 1, .string { data := #[109] }, .string { data := #[109] }] 63))
  go_enter Tryz.func40, Tryz.ntmps40
  go_upto_region 1 with fail
  generalize w.alloc (.cells #[.string { data := #[112] }, .int .i64 1, .string { data := #[109] }, .string { data := #[109] }] 63) = W at D0 A0 ⊢
  have k0 := D0.out.cell 0
  have k1 := D0.out.cell 1
  have k2 := D0.out.cell 2
  have k3 := D0.out.cell 3
  simp at k0 k1 k2 k3
  have kl := D0.out.lt
  go_wp2_with (go_at_call 41; refine (imp0_c _).mono ?_; rintro e w1 ⟨rfl, hb⟩; have A1 := Lib.hid (A0.out.trans (hb.mono A0.out.size)); clear hb)
  go_ret
  exact ⟨rfl, A1.out⟩
set_option maxHeartbeats 4000000 in
theorem idxI_c (b cap : Nat) (w : World) (h : Blk w b #[.string { data := #[112] }, .int .i64 1, .string { data := #[109] }, .string { data := #[109] }] 63) : Calls Tryz.prog 63 #[.slice (some ⟨b, 0, none⟩) 1 cap, .func (.func 40) #[] #[]] w fun e w' => e = .returned (.int .i64 (-1)) ∧ Below w.heap.size w w' := by
  have H := Lib.hid h
  clear h
  go_enter Tryz.func63, Tryz.ntmps63
  go_wp2
  go_loopw [8] (fun i w1 => ∃ k : Nat, k ≤ 1 ∧ i = .int .i64 k ∧ Below w.heap.size w w1) (fun i _ => 1 - (intOf i).toNat)
  case atStart => exact ⟨0, Nat.zero_le _, rfl, Below.refl _ _⟩
  case round =>
    rename World => wr
    obtain ⟨k, hk, rfl, hacc⟩ := hrel
    have HB := Lib.hid hacc
    clear hacc
    by_cases h0 : k = 0
    · subst h0
      have D := Lib.hid (H.out.under HB.out H.out.lt)
      have k0 := D.out.cell 0
      have k1 := D.out.cell 1
      have k2 := D.out.cell 2
      have k3 := D.out.cell 3
      simp at k0 k1 k2 k3
      have kl := D.out.lt
      go_wp2_with fail
      refine (imp1_c wr).mono ?_
      rintro e w1 ⟨rfl, hb1⟩
      have HB1 := Lib.hid (HB.out.trans (hb1.mono HB.out.size))
      clear hb1
      go_wp2_with fail
      exact ⟨⟨1, by omega, by go_num, HB1.out⟩, by simp [intOf]⟩
    · have hkI : ¬ (k : Int) < 1 := by omega
      go_wp2_with fail
      go_ret
      exact ⟨rfl, HB.out⟩
theorem conI_c (b cap : Nat) (w : World) (h : Blk w b #[.string { data := #[112] }, .int .i64 1, .string { data := #[109] }, .string { data := #[109] }] 63) : Calls Tryz.prog 44 #[.slice (some ⟨b, 0, none⟩) 1 cap, .func (.func 40) #[] #[]] w fun e w' => e = .returned (.bool false) ∧ Below w.heap.size w w' := by
  have H := Lib.hid (idxI_c b cap w h)
  clear h
  go_enter Tryz.func44, Tryz.ntmps44
  go_wp2_with fail
  refine H.out.mono ?_
  rintro e w1 ⟨rfl, hb1⟩
  go_wp2_with fail
  go_ret
  exact ⟨rfl, hb1⟩
def wT : Ty := .mk 1 { data := #[] } 0 { data := #[] } { data := #[] } [] []
theorem may_wT : mayT wT = true := by decide +kernel
theorem mayW_c (na : Option Addr) (nc : Nat) (sa : Option Addr) (sc : Nat) (w : World) (B : Nat) (h : TyC w B wT #[.int .i64 1, .string { data := #[] }, .int .i64 0, .string { data := #[] }, .string { data := #[] }, .slice na 0 nc, .slice sa 0 sc]) (hB : B ≤ w.heap.size) : Calls Tryz.prog 48 #[.agg #[.int .i64 1, .string { data := #[] }, .int .i64 0, .string { data := #[] }, .string { data := #[] }, .slice na 0 nc, .slice sa 0 sc]] w fun e w' => e = .returned (.bool true) ∧ Below w.heap.size w w' :=
  may_wT ▸ May_c wT #[.int .i64 1, .string { data := #[] }, .int .i64 0, .string { data := #[] }, .string { data := #[] }, .slice na 0 nc, .slice sa 0 sc] B w h hB
set_option maxHeartbeats 4000000 in
theorem said_c (na : Option Addr) (nc : Nat) (sa : Option Addr) (sc : Nat) (w : World) (h : TyC w w.heap.size wT #[.int .i64 1, .string { data := #[] }, .int .i64 0, .string { data := #[] }, .string { data := #[] }, .slice na 0 nc, .slice sa 0 sc]) : Calls Tryz.prog 43 #[.agg #[.int .i64 1, .string { data := #[109] }, .string { data := #[102] }, .int .i64 1, .string { data := #[] }, .int .i64 0, .string { data := #[] }, .string { data := #[] }, .slice na 0 nc, .slice sa 0 sc]] w fun e w' => e = .returned (.bool true) ∧ Below w.heap.size w w' := by
  have D0 := Lib.hid (Blk.new w #[.int .i64 1, .string { data := #[109] }, .string { data := #[102] }, .int .i64 1, .string { data := #[] }, .int .i64 0, .string { data := #[] }, .string { data := #[] }, .slice na 0 nc, .slice sa 0 sc] 61)
  have A0 := Lib.hid ((Below.refl w.heap.size w).alloc (Nat.le_refl _) (.cells #[.int .i64 1, .string { data := #[109] }, .string { data := #[102] }, .int .i64 1, .string { data := #[] }, .int .i64 0, .string { data := #[] }, .string { data := #[] }, .slice na 0 nc, .slice sa 0 sc] 61))
  have H := Lib.hid h
  clear h
  go_enter Tryz.func43, Tryz.ntmps43
  go_upto_region 1 with fail
  generalize w.alloc (.cells #[.int .i64 1, .string { data := #[109] }, .string { data := #[102] }, .int .i64 1, .string { data := #[] }, .int .i64 0, .string { data := #[] }, .string { data := #[] }, .slice na 0 nc, .slice sa 0 sc] 61) = W at D0 A0 ⊢
  have k0 := D0.out.cell 0
  have k1 := D0.out.cell 1
  have k2 := D0.out.cell 2
  have k3 := D0.out.cell 3
  have k4 := D0.out.cell 4
  have k5 := D0.out.cell 5
  have k6 := D0.out.cell 6
  have k7 := D0.out.cell 7
  have k8 := D0.out.cell 8
  have k9 := D0.out.cell 9
  simp at k0 k1 k2 k3 k4 k5 k6 k7 k8 k9
  have kl := D0.out.lt
  go_upto_region 2 with (go_at_call 61; refine (smallF _).mono ?_; rintro e w1 ⟨rfl, hb⟩; have A1 := Lib.hid (A0.out.trans (hb.mono A0.out.size)); have D1 := Lib.hid (D0.out.under hb D0.out.lt); clear hb; clear k0 k1 k2 k3 k4 k5 k6 k7 k8 k9 kl; have k0 := D1.out.cell 0; have k1 := D1.out.cell 1; have k2 := D1.out.cell 2; have k3 := D1.out.cell 3; have k4 := D1.out.cell 4; have k5 := D1.out.cell 5; have k6 := D1.out.cell 6; have k7 := D1.out.cell 7; have k8 := D1.out.cell 8; have k9 := D1.out.cell 9; simp at k0 k1 k2 k3 k4 k5 k6 k7 k8 k9; have kl := D1.out.lt)
  go_wp2_with (first
    | (have h0 := A2; go_at_call 48; refine (mayW_c na nc sa sc _ _ (H.out.under A2.out) A2.out.size).mono ?_; rintro e w3 ⟨rfl, hb⟩; have A3 := Lib.hid (A2.out.trans (hb.mono A2.out.size)); clear hb)
    | (have h0 := A1; go_at_call 61; refine (smallM _).mono ?_; rintro e w2 ⟨rfl, hb⟩; have A2 := Lib.hid (A1.out.trans (hb.mono A1.out.size)); have D2 := Lib.hid (D1.out.under hb D1.out.lt); clear hb; clear k0 k1 k2 k3 k4 k5 k6 k7 k8 k9 kl; have k0 := D2.out.cell 0; have k1 := D2.out.cell 1; have k2 := D2.out.cell 2; have k3 := D2.out.cell 3; have k4 := D2.out.cell 4; have k5 := D2.out.cell 5; have k6 := D2.out.cell 6; have k7 := D2.out.cell 7; have k8 := D2.out.cell 8; have k9 := D2.out.cell 9; simp at k0 k1 k2 k3 k4 k5 k6 k7 k8 k9; have kl := D2.out.lt))
  go_ret
  exact ⟨rfl, A3.out⟩
set_option maxHeartbeats 4000000 in
theorem said1_c (na : Option Addr) (nc : Nat) (sa : Option Addr) (sc : Nat) (w : World) (h : TyC w w.heap.size wT #[.int .i64 1, .string { data := #[] }, .int .i64 0, .string { data := #[] }, .string { data := #[] }, .slice na 0 nc, .slice sa 0 sc]) : Calls Tryz.prog 42 #[.agg #[.int .i64 1, .string { data := #[109] }, .string { data := #[102] }, .int .i64 1, .string { data := #[] }, .int .i64 0, .string { data := #[] }, .string { data := #[] }, .slice na 0 nc, .slice sa 0 sc]] w fun e w' => e = .returned (.bool false) ∧ Below w.heap.size w w' := by
  have D0 := Lib.hid (Blk.new w #[.int .i64 1, .string { data := #[109] }, .string { data := #[102] }, .int .i64 1, .string { data := #[] }, .int .i64 0, .string { data := #[] }, .string { data := #[] }, .slice na 0 nc, .slice sa 0 sc] 61)
  have A0 := Lib.hid ((Below.refl w.heap.size w).alloc (Nat.le_refl _) (.cells #[.int .i64 1, .string { data := #[109] }, .string { data := #[102] }, .int .i64 1, .string { data := #[] }, .int .i64 0, .string { data := #[] }, .string { data := #[] }, .slice na 0 nc, .slice sa 0 sc] 61))
  have H := Lib.hid h
  clear h
  go_enter Tryz.func42, Tryz.ntmps42
  go_upto_region 1 with fail
  generalize w.alloc (.cells #[.int .i64 1, .string { data := #[109] }, .string { data := #[102] }, .int .i64 1, .string { data := #[] }, .int .i64 0, .string { data := #[] }, .string { data := #[] }, .slice na 0 nc, .slice sa 0 sc] 61) = W at D0 A0 ⊢
  have k0 := D0.out.cell 0
  have k1 := D0.out.cell 1
  have k2 := D0.out.cell 2
  have k3 := D0.out.cell 3
  have k4 := D0.out.cell 4
  have k5 := D0.out.cell 5
  have k6 := D0.out.cell 6
  have k7 := D0.out.cell 7
  have k8 := D0.out.cell 8
  have k9 := D0.out.cell 9
  simp at k0 k1 k2 k3 k4 k5 k6 k7 k8 k9
  have kl := D0.out.lt
  go_wp2_with (go_at_call 43; refine (said_c na nc sa sc _ ((H.out.under A0.out).mono A0.out.size)).mono ?_; rintro e w1 ⟨rfl, hb⟩; have A1 := Lib.hid (A0.out.trans (hb.mono A0.out.size)); clear hb)
  go_ret
  exact ⟨rfl, A1.out⟩
set_option maxHeartbeats 4000000 in
theorem idxL_c (na : Option Addr) (nc : Nat) (sa : Option Addr) (sc : Nat) (b cap : Nat) (w : World) (h : Blk w b #[.int .i64 1, .string { data := #[109] }, .string { data := #[102] }, .int .i64 1, .string { data := #[] }, .int .i64 0, .string { data := #[] }, .string { data := #[] }, .slice na 0 nc, .slice sa 0 sc] 61) (ht : TyC w w.heap.size wT #[.int .i64 1, .string { data := #[] }, .int .i64 0, .string { data := #[] }, .string { data := #[] }, .slice na 0 nc, .slice sa 0 sc]) : Calls Tryz.prog 64 #[.slice (some ⟨b, 0, none⟩) 1 cap, .func (.func 42) #[] #[]] w fun e w' => e = .returned (.int .i64 (-1)) ∧ Below w.heap.size w w' := by
  have H := Lib.hid h
  have HT := Lib.hid ht
  clear h ht
  go_enter Tryz.func64, Tryz.ntmps64
  go_wp2
  go_loopw [8] (fun i w1 => ∃ k : Nat, k ≤ 1 ∧ i = .int .i64 k ∧ Below w.heap.size w w1) (fun i _ => 1 - (intOf i).toNat)
  case atStart => exact ⟨0, Nat.zero_le _, rfl, Below.refl _ _⟩
  case round =>
    rename World => wr
    obtain ⟨k, hk, rfl, hacc⟩ := hrel
    have HB := Lib.hid hacc
    clear hacc
    by_cases h0 : k = 0
    · subst h0
      have D := Lib.hid (H.out.under HB.out H.out.lt)
      have k0 := D.out.cell 0
      have k1 := D.out.cell 1
      have k2 := D.out.cell 2
      have k3 := D.out.cell 3
      have k4 := D.out.cell 4
      have k5 := D.out.cell 5
      have k6 := D.out.cell 6
      have k7 := D.out.cell 7
      have k8 := D.out.cell 8
      have k9 := D.out.cell 9
      simp at k0 k1 k2 k3 k4 k5 k6 k7 k8 k9
      have kl := D.out.lt
      go_wp2_with fail
      refine (said1_c na nc sa sc wr ((HT.out.under HB.out).mono HB.out.size)).mono ?_
      rintro e w1 ⟨rfl, hb1⟩
      have HB1 := Lib.hid (HB.out.trans (hb1.mono HB.out.size))
      clear hb1
      go_wp2_with fail
      exact ⟨⟨1, by omega, by go_num, HB1.out⟩, by simp [intOf]⟩
    · have hkI : ¬ (k : Int) < 1 := by omega
      go_wp2_with fail
      go_ret
      exact ⟨rfl, HB.out⟩
theorem conL_c (na : Option Addr) (nc : Nat) (sa : Option Addr) (sc : Nat) (b cap : Nat) (w : World) (h : Blk w b #[.int .i64 1, .string { data := #[109] }, .string { data := #[102] }, .int .i64 1, .string { data := #[] }, .int .i64 0, .string { data := #[] }, .string { data := #[] }, .slice na 0 nc, .slice sa 0 sc] 61) (ht : TyC w w.heap.size wT #[.int .i64 1, .string { data := #[] }, .int .i64 0, .string { data := #[] }, .string { data := #[] }, .slice na 0 nc, .slice sa 0 sc]) : Calls Tryz.prog 45 #[.slice (some ⟨b, 0, none⟩) 1 cap, .func (.func 42) #[] #[]] w fun e w' => e = .returned (.bool false) ∧ Below w.heap.size w w' := by
  have H := Lib.hid (idxL_c na nc sa sc b cap w h ht)
  clear h ht
  go_enter Tryz.func45, Tryz.ntmps45
  go_wp2_with fail
  refine H.out.mono ?_
  rintro e w1 ⟨rfl, hb1⟩
  go_wp2_with fail
  go_ret
  exact ⟨rfl, hb1⟩
set_option maxHeartbeats 4000000 in
theorem textW_c (na : Option Addr) (nc : Nat) (sa : Option Addr) (sc : Nat) (w : World) : Calls Tryz.prog 49 #[.agg #[.int .i64 1, .string { data := #[] }, .int .i64 0, .string { data := #[] }, .string { data := #[] }, .slice na 0 nc, .slice sa 0 sc]] w fun e w' => e = .returned (.string { data := #[73, 110, 116] }) ∧ Below w.heap.size w w' := by
  have A0 := Lib.hid ((Below.refl w.heap.size w).alloc (Nat.le_refl _) (.cells #[.int .i64 1, .string { data := #[] }, .int .i64 0, .string { data := #[] }, .string { data := #[] }, .slice na 0 nc, .slice sa 0 sc] 41))
  go_enter Tryz.func49, Tryz.ntmps49
  go_wp2_with fail
  go_ret
  exact ⟨rfl, A0.out⟩
set_option maxHeartbeats 4000000 in
theorem printW_c (na : Option Addr) (nc : Nat) (sa : Option Addr) (sc : Nat) (w : World) (h : TyC w w.heap.size wT #[.int .i64 1, .string { data := #[] }, .int .i64 0, .string { data := #[] }, .string { data := #[] }, .slice na 0 nc, .slice sa 0 sc]) : Calls Tryz.prog 24 #[.agg #[.int .i64 1, .string { data := #[] }, .int .i64 0, .string { data := #[] }, .string { data := #[] }, .slice na 0 nc, .slice sa 0 sc]] w fun e w' => e = .returned (.tuple #[.string { data := #[73, 110, 116] }, .nilIface]) ∧ Below w.heap.size w w' := by
  have D0 := Lib.hid (Blk.new w #[.int .i64 1, .string { data := #[] }, .int .i64 0, .string { data := #[] }, .string { data := #[] }, .slice na 0 nc, .slice sa 0 sc] 41)
  have A0 := Lib.hid ((Below.refl w.heap.size w).alloc (Nat.le_refl _) (.cells #[.int .i64 1, .string { data := #[] }, .int .i64 0, .string { data := #[] }, .string { data := #[] }, .slice na 0 nc, .slice sa 0 sc] 41))
  have H := Lib.hid h
  clear h
  go_enter Tryz.func24, Tryz.ntmps24
  go_upto_region 1 with fail
  generalize w.alloc (.cells #[.int .i64 1, .string { data := #[] }, .int .i64 0, .string { data := #[] }, .string { data := #[] }, .slice na 0 nc, .slice sa 0 sc] 41) = W at D0 A0 ⊢
  have k0 := D0.out.cell 0
  have k1 := D0.out.cell 1
  have k2 := D0.out.cell 2
  have k3 := D0.out.cell 3
  have k4 := D0.out.cell 4
  have k5 := D0.out.cell 5
  have k6 := D0.out.cell 6
  simp at k0 k1 k2 k3 k4 k5 k6
  have kl := D0.out.lt
  go_wp2_with (first
    | (have h0 := A1; go_at_call 49; refine (textW_c na nc sa sc _).mono ?_; rintro e w2 ⟨rfl, hb⟩; have A2 := Lib.hid (A1.out.trans (hb.mono A1.out.size)); clear hb)
    | (go_at_call 48; refine (mayW_c na nc sa sc _ _ (H.out.under A0.out) A0.out.size).mono ?_; rintro e w1 ⟨rfl, hb⟩; have A1 := Lib.hid (A0.out.trans (hb.mono A0.out.size)); have D1 := Lib.hid (D0.out.under hb D0.out.lt); clear hb; clear k0 k1 k2 k3 k4 k5 k6 kl; have k0 := D1.out.cell 0; have k1 := D1.out.cell 1; have k2 := D1.out.cell 2; have k3 := D1.out.cell 3; have k4 := D1.out.cell 4; have k5 := D1.out.cell 5; have k6 := D1.out.cell 6; simp at k0 k1 k2 k3 k4 k5 k6; have kl := D1.out.lt))
  refine bodyPost_ret (by simp [results, Tryz.results24, go_sem]; try rfl) rfl ?_
  exact ⟨rfl, A2.out⟩
end Go.Proofs.YtbffijiecbfpnaaGreatDoor
namespace Go.Proofs.YtbffijiecbfpnaaGreatDoor
open Go.RowKit
set_option linter.unusedSimpArgs false
set_option linter.unusedVariables false
set_option maxHeartbeats 4000000 in
theorem mayU_c (b1 b2 : Nat) (na : Option Addr) (nc : Nat) (sa : Option Addr) (sc : Nat) (w : World) (h1 : Blk w b1 #[.string { data := #[112] }, .int .i64 1, .string { data := #[109] }, .string { data := #[109] }] 63) (h2 : Blk w b2 #[.int .i64 1, .string { data := #[109] }, .string { data := #[102] }, .int .i64 1, .string { data := #[] }, .int .i64 0, .string { data := #[] }, .string { data := #[] }, .slice na 0 nc, .slice sa 0 sc] 61) (ht : TyC w w.heap.size wT #[.int .i64 1, .string { data := #[] }, .int .i64 0, .string { data := #[] }, .string { data := #[] }, .slice na 0 nc, .slice sa 0 sc]) : Calls Tryz.prog 21 #[.agg #[.slice (some ⟨b1, 0, none⟩) 1 1, .slice (some ⟨b2, 0, none⟩) 1 1]] w fun e w' => e = .returned (.bool true) ∧ Below w.heap.size w w' := by
  have D0 := Lib.hid (Blk.new w #[.slice (some ⟨b1, 0, none⟩) 1 1, .slice (some ⟨b2, 0, none⟩) 1 1] 28)
  have A0 := Lib.hid ((Below.refl w.heap.size w).alloc (Nat.le_refl _) (.cells #[.slice (some ⟨b1, 0, none⟩) 1 1, .slice (some ⟨b2, 0, none⟩) 1 1] 28))
  have H1 := Lib.hid h1
  have H2 := Lib.hid h2
  have HT := Lib.hid ht
  clear h1 h2 ht
  go_enter Tryz.func21, Tryz.ntmps21
  go_upto_region 1 with fail
  generalize w.alloc (.cells #[.slice (some ⟨b1, 0, none⟩) 1 1, .slice (some ⟨b2, 0, none⟩) 1 1] 28) = W at D0 A0 ⊢
  have k0 := D0.out.cell 0
  have k1 := D0.out.cell 1
  simp at k0 k1
  have kl := D0.out.lt
  go_wp2_with (first
    | (have h0 := A1; go_at_call 45; refine (conL_c na nc sa sc b2 1 _ (H2.out.under A1.out H2.out.lt) ((HT.out.under A1.out).mono A1.out.size)).mono ?_; rintro e w2 ⟨rfl, hb⟩; have A2 := Lib.hid (A1.out.trans (hb.mono A1.out.size)); clear hb)
    | (go_at_call 44; refine (conI_c b1 1 _ (H1.out.under A0.out H1.out.lt)).mono ?_; rintro e w1 ⟨rfl, hb⟩; have A1 := Lib.hid (A0.out.trans (hb.mono A0.out.size)); have D1 := Lib.hid (D0.out.under hb D0.out.lt); clear hb; clear k0 k1 kl; have k0 := D1.out.cell 0; have k1 := D1.out.cell 1; simp at k0 k1; have kl := D1.out.lt))
  go_ret
  exact ⟨rfl, A2.out⟩
theorem string_c (gb : Nat) (w : World) (h : Lib.IsBuilder 71 5 gb gb (Lib.strCells { data := #[105, 109, 112, 111, 114, 116, 32, 112, 32, 49, 32, 109, 32, 97, 115, 32, 109, 10] } ++ Lib.strCells { data := #[117, 115, 101, 32, 109, 46, 102, 32, 58, 32, 73, 110, 116, 10] }) w) : Calls Tryz.prog 25 #[.pointer (some ⟨gb, 0, none⟩)] w fun e w' => e = .returned (.string { data := #[105, 109, 112, 111, 114, 116, 32, 112, 32, 49, 32, 109, 32, 97, 115, 32, 109, 10, 117, 115, 101, 32, 109, 46, 102, 32, 58, 32, 73, 110, 116, 10] }) ∧ Below gb w w' := by
  have h2 : Lib.IsBuilder 71 5 gb gb (Lib.byteCells (({ data := #[105, 109, 112, 111, 114, 116, 32, 112, 32, 49, 32, 109, 32, 97, 115, 32, 109, 10] } : ByteArray).data.toList ++ ({ data := #[117, 115, 101, 32, 109, 46, 102, 32, 58, 32, 73, 110, 116, 10] } : ByteArray).data.toList)) w := by rw [Lib.byteCells_append]; exact h
  have := Tryz.Builder_String gb gb _ w h2 (by simp)
  have e : (⟨(({ data := #[105, 109, 112, 111, 114, 116, 32, 112, 32, 49, 32, 109, 32, 97, 115, 32, 109, 10] } : ByteArray).data.toList ++ ({ data := #[117, 115, 101, 32, 109, 46, 102, 32, 58, 32, 73, 110, 116, 10] } : ByteArray).data.toList).toArray⟩ : ByteArray) = { data := #[105, 109, 112, 111, 114, 116, 32, 112, 32, 49, 32, 109, 32, 97, 115, 32, 109, 10, 117, 115, 101, 32, 109, 46, 102, 32, 58, 32, 73, 110, 116, 10] } := by kernel_rfl
  rw [e] at this
  exact this
theorem itoa1_c (w : World) : Calls Tryz.prog 23 #[.int .i64 1] w fun e w' => e = .returned (.string { data := #[49] }) ∧ w' = w := by
  have h := Tryz.strconv_Itoa_small 1 (by decide) w
  have e : (⟨(Lib.decDigits 1).toArray⟩ : ByteArray) = { data := #[49] } := by kernel_rfl
  rw [e] at h
  exact h
theorem isb_under {T e : TypeId} {B b : Nat} {bs : List Value} {w w' : World} (h : Lib.IsBuilder T e B b bs w) (hb : Below w.heap.size w w') : Lib.IsBuilder T e B b bs w' := by
  rcases h with ⟨h1, v, h2, h3, h4⟩ | ⟨h1, v, h2, h3, h4⟩
  · exact .inl ⟨h1, v, (hb.block b (Array.getElem?_eq_some_iff.1 h2).1).trans h2, owns_under' h3 hb, h4⟩
  · exact .inr ⟨h1, v, (hb.block b (Array.getElem?_eq_some_iff.1 h2).1).trans h2, owns_under' h3 hb, h4⟩
set_option maxRecDepth 100000 in
set_option maxHeartbeats 8000000 in
theorem printU_c (b1 b2 : Nat) (na : Option Addr) (nc : Nat) (sa : Option Addr) (sc : Nat) (w : World) (h1 : Blk w b1 #[.string { data := #[112] }, .int .i64 1, .string { data := #[109] }, .string { data := #[109] }] 63) (h2 : Blk w b2 #[.int .i64 1, .string { data := #[109] }, .string { data := #[102] }, .int .i64 1, .string { data := #[] }, .int .i64 0, .string { data := #[] }, .string { data := #[] }, .slice na 0 nc, .slice sa 0 sc] 61) (ht : TyC w w.heap.size wT #[.int .i64 1, .string { data := #[] }, .int .i64 0, .string { data := #[] }, .string { data := #[] }, .slice na 0 nc, .slice sa 0 sc]) : Calls Tryz.prog 10 #[.agg #[.slice (some ⟨b1, 0, none⟩) 1 1, .slice (some ⟨b2, 0, none⟩) 1 1]] w fun e w' => e = .returned (.tuple #[.string { data := #[105, 109, 112, 111, 114, 116, 32, 112, 32, 49, 32, 109, 32, 97, 115, 32, 109, 10, 117, 115, 101, 32, 109, 46, 102, 32, 58, 32, 73, 110, 116, 10] }, .nilIface]) ∧ Below w.heap.size w w' := by
  have D0 := Lib.hid (Blk.new w #[.slice (some ⟨b1, 0, none⟩) 1 1, .slice (some ⟨b2, 0, none⟩) 1 1] 28)
  have A0 := Lib.hid ((Below.refl w.heap.size w).alloc (Nat.le_refl _) (.cells #[.slice (some ⟨b1, 0, none⟩) 1 1, .slice (some ⟨b2, 0, none⟩) 1 1] 28))
  have H1 := Lib.hid h1
  have H2 := Lib.hid h2
  have HT := Lib.hid ht
  clear h1 h2 ht
  go_enter Tryz.func10, Tryz.ntmps10
  go_upto_region 1 with fail
  generalize w.alloc (.cells #[.slice (some ⟨b1, 0, none⟩) 1 1, .slice (some ⟨b2, 0, none⟩) 1 1] 28) = W at D0 A0 ⊢
  have k0 := D0.out.cell 0
  have k1 := D0.out.cell 1
  simp at k0 k1
  have kl := D0.out.lt
  go_upto_region 3 with (go_at_call 21; refine (mayU_c b1 b2 na nc sa sc _ (H1.out.under A0.out H1.out.lt) (H2.out.under A0.out H2.out.lt) ((HT.out.under A0.out).mono A0.out.size)).mono ?_; rintro e w1 ⟨rfl, hb⟩; have A1 := Lib.hid (A0.out.trans (hb.mono A0.out.size)); have D1 := Lib.hid (D0.out.under hb D0.out.lt); clear hb k0 k1 kl)
  go_upto_region 4 with fail
  have bb : Lib.BuilderAt 71 5 w1.heap.size w1.heap.size (.pointer none) [] (w1.alloc (.cells #[.pointer none, .slice none 0 0] 71)) := ⟨Nat.le_refl _, _, heap_alloc_new w1 _, World.ownsRow_nil _ _ _ _, by simp [Value.ownBlock]⟩
  have hb2 := (Below.refl w1.heap.size w1).alloc (Nat.le_refl _) (.cells #[.pointer none, .slice none 0 0] 71)
  generalize w1.alloc (.cells #[.pointer none, .slice none 0 0] 71) = w2 at bb hb2 ⊢
  generalize hgb : w1.heap.size = gb at bb hb2 ⊢
  have HGB := Lib.hid hgb
  have BB := Lib.hid bb
  have A2 := Lib.hid (A1.out.trans (hb2.mono (by rw [← hgb]; exact A1.out.size)))
  have D2 := Lib.hid (D1.out.under hb2 (by rw [← hgb]; exact D1.out.lt))
  have hgbl : w.heap.size ≤ gb := by rw [← hgb]; exact A1.out.size
  have hgw : w.heap.size < gb := by rw [← hgb]; exact D1.out.lt
  have hgz : gb < w2.heap.size := bb.lt
  clear bb hb2 hgb
  have k0 := D2.out.cell 0
  have k1 := D2.out.cell 1
  simp at k0 k1
  have kl := D2.out.lt
  go_wp2_with fail
  go_loopw [18] (fun i wk => ∃ k : Nat, i = .int .i64 k ∧ k ≤ 1 ∧ Below gb w2 wk ∧ gb ≤ wk.heap.size ∧ Lib.IsBuilder 71 5 gb gb (if k = 0 then [] else Lib.strCells { data := #[105, 109, 112, 111, 114, 116, 32, 112, 32, 49, 32, 109, 32, 97, 115, 32, 109, 10] }) wk) (fun i _ => 1 - (intOf i).toNat)
  case atStart => exact ⟨0, rfl, Nat.zero_le _, Below.refl _ _, Nat.le_of_lt hgz, .inl BB.out⟩
  case round =>
    rename World => wk
    obtain ⟨k, rfl, hk, hbk, hzk, hbl⟩ := hrel
    have BK := Lib.hid hbk
    have BL := Lib.hid hbl
    have AK := Lib.hid (A2.out.trans (hbk.mono hgbl))
    have DK := Lib.hid (D2.out.under hbk hgw)
    clear hbk hbl k0 k1 kl
    have k0 := DK.out.cell 0
    have k1 := DK.out.cell 1
    simp at k0 k1
    have kl := DK.out.lt
    by_cases hk0 : k = 0
    · subst hk0
      have I1 := Lib.hid (H1.out.under AK.out H1.out.lt)
      have i0 := I1.out.cell 0
      have i1 := I1.out.cell 1
      have i2 := I1.out.cell 2
      have i3 := I1.out.cell 3
      simp at i0 i1 i2 i3
      have il := I1.out.lt
      go_upto_region 7 with fail
      have b6 := Blk.new wk #[.string { data := #[112] }, .int .i64 1, .string { data := #[109] }, .string { data := #[109] }] 63
      have hb6 := (Below.refl wk.heap.size wk).alloc (Nat.le_refl _) (.cells #[.string { data := #[112] }, .int .i64 1, .string { data := #[109] }, .string { data := #[109] }] 63)
      have bl6 := isb_under BL.out hb6
      generalize wk.alloc (.cells #[.string { data := #[112] }, .int .i64 1, .string { data := #[109] }, .string { data := #[109] }] 63) = w6 at b6 hb6 bl6 ⊢
      generalize wk.heap.size = g6 at b6 hb6 hzk ⊢
      have B6 := Lib.hid b6
      have BL6 := Lib.hid bl6
      have BK6 := Lib.hid (BK.out.trans (hb6.mono hzk))
      have hz6 : gb ≤ w6.heap.size := Nat.le_trans hzk (Nat.le_of_lt b6.lt)
      clear b6 bl6 hb6 i0 i1 i2 i3 il
      refine wp_region_until [(17, fun w' => Blk w' g6 #[.string { data := #[112] }, .int .i64 1, .string { data := #[109] }, .string { data := #[109] }] 63), (6, fun w' => Blk w' g6 #[.string { data := #[112] }, .int .i64 1, .string { data := #[109] }, .string { data := #[109] }] 63)] (by kernel_rfl) (Until.cons (fun _ => B6.out.drew) (Until.cons (fun _ => B6.out.drew) Until.nil)) (fun hU => ?_)
      refine AnyU.take (i := 0) (v := ?_) rfl (by kernel_rfl) (by kernel_rfl) (by kernel_rfl) (fun _ _ _ h => h) (by kernel_rfl) (by assumption) (by rfl) ?_ (fun hV => ?_)
      rotate_left 1
      · (intro wq; go_simp; try with_reducible rfl)
      clear hU
      have hU := hV
      clear hV
      try simp only [Act.put, List.getElem_toArray, List.getElem_cons_zero, List.getElem_cons_succ, List.setIfInBounds_toArray, List.set_cons_zero, List.set_cons_succ]
      refine AnyU.loadc (i := 1) (d := 17) [2, 3, 7, 8, 11, 12, 15, 16, 17] (Si := fun w' => Blk w' g6 #[.string { data := #[112] }, .int .i64 1, .string { data := #[109] }, .string { data := #[109] }] 63) (v := ?_) rfl (by kernel_rfl) (by kernel_rfl) (by kernel_rfl) (fun _ _ _ h => h) (by kernel_rfl) (by assumption) (by kernel_rfl) rfl (by simp) (by rfl) ?_ (fun hV => ?_)
      rotate_left 1
      · (intro wq hq; have u0 := hq.cell 0; have u1 := hq.cell 1; have u2 := hq.cell 2; have u3 := hq.cell 3; simp at u0 u1 u2 u3; go_simp; try with_reducible rfl)
      clear hU
      have hU := hV
      clear hV
      try simp only [Act.put, List.getElem_toArray, List.getElem_cons_zero, List.getElem_cons_succ, List.setIfInBounds_toArray, List.set_cons_zero, List.set_cons_succ]
      refine AnyU.take (i := 4) (v := ?_) rfl (by kernel_rfl) (by kernel_rfl) (by kernel_rfl) (fun _ _ _ h => h) (by kernel_rfl) (by assumption) (by rfl) ?_ (fun hV => ?_)
      rotate_left 1
      · (intro wq; go_simp; try with_reducible rfl)
      clear hU
      have hU := hV
      clear hV
      try simp only [Act.put, List.getElem_toArray, List.getElem_cons_zero, List.getElem_cons_succ, List.setIfInBounds_toArray, List.set_cons_zero, List.set_cons_succ]
      refine AnyU.loadc (i := 5) (d := 6) [6] (Si := fun w' => Blk w' g6 #[.string { data := #[112] }, .int .i64 1, .string { data := #[109] }, .string { data := #[109] }] 63) (v := ?_) rfl (by kernel_rfl) (by kernel_rfl) (by kernel_rfl) (fun _ _ _ h => h) (by kernel_rfl) (by assumption) (by kernel_rfl) rfl (by simp) (by rfl) ?_ (fun hV => ?_)
      rotate_left 1
      · (intro wq hq; have u0 := hq.cell 0; have u1 := hq.cell 1; have u2 := hq.cell 2; have u3 := hq.cell 3; simp at u0 u1 u2 u3; go_simp; try with_reducible rfl)
      clear hU
      have hU := hV
      clear hV
      try simp only [Act.put, List.getElem_toArray, List.getElem_cons_zero, List.getElem_cons_succ, List.setIfInBounds_toArray, List.set_cons_zero, List.set_cons_succ]
      refine AnyU.take (i := 9) (v := ?_) rfl (by kernel_rfl) (by kernel_rfl) (by kernel_rfl) (fun _ _ _ h => h) (by kernel_rfl) (by assumption) (by rfl) ?_ (fun hV => ?_)
      rotate_left 1
      · (intro wq; go_simp; try with_reducible rfl)
      clear hU
      have hU := hV
      clear hV
      try simp only [Act.put, List.getElem_toArray, List.getElem_cons_zero, List.getElem_cons_succ, List.setIfInBounds_toArray, List.set_cons_zero, List.set_cons_succ]
      refine AnyU.loadc (i := 10) (d := 17) [11, 12, 15, 16, 17] (Si := fun w' => Blk w' g6 #[.string { data := #[112] }, .int .i64 1, .string { data := #[109] }, .string { data := #[109] }] 63) (v := ?_) rfl (by kernel_rfl) (by kernel_rfl) (by kernel_rfl) (fun _ _ _ h => h) (by kernel_rfl) (by assumption) (by kernel_rfl) rfl (by simp) (by rfl) ?_ (fun hV => ?_)
      rotate_left 1
      · (intro wq hq; have u0 := hq.cell 0; have u1 := hq.cell 1; have u2 := hq.cell 2; have u3 := hq.cell 3; simp at u0 u1 u2 u3; go_simp; try with_reducible rfl)
      clear hU
      have hU := hV
      clear hV
      try simp only [Act.put, List.getElem_toArray, List.getElem_cons_zero, List.getElem_cons_succ, List.setIfInBounds_toArray, List.set_cons_zero, List.set_cons_succ]
      refine AnyU.take (i := 13) (v := ?_) rfl (by kernel_rfl) (by kernel_rfl) (by kernel_rfl) (fun _ _ _ h => h) (by kernel_rfl) (by assumption) (by rfl) ?_ (fun hV => ?_)
      rotate_left 1
      · (intro wq; go_simp; try with_reducible rfl)
      clear hU
      have hU := hV
      clear hV
      try simp only [Act.put, List.getElem_toArray, List.getElem_cons_zero, List.getElem_cons_succ, List.setIfInBounds_toArray, List.set_cons_zero, List.set_cons_succ]
      refine AnyU.loadc (i := 14) (d := 17) [15, 16, 17] (Si := fun w' => Blk w' g6 #[.string { data := #[112] }, .int .i64 1, .string { data := #[109] }, .string { data := #[109] }] 63) (v := ?_) rfl (by kernel_rfl) (by kernel_rfl) (by kernel_rfl) (fun _ _ _ h => h) (by kernel_rfl) (by assumption) (by kernel_rfl) rfl (by simp) (by rfl) ?_ (fun hV => ?_)
      rotate_left 1
      · (intro wq hq; have u0 := hq.cell 0; have u1 := hq.cell 1; have u2 := hq.cell 2; have u3 := hq.cell 3; simp at u0 u1 u2 u3; go_simp; try with_reducible rfl)
      clear hU
      have hU := hV
      clear hV
      try simp only [Act.put, List.getElem_toArray, List.getElem_cons_zero, List.getElem_cons_succ, List.setIfInBounds_toArray, List.set_cons_zero, List.set_cons_succ]
      refine AnyU.take (i := 2) (v := ?_) rfl (by kernel_rfl) (by kernel_rfl) (by kernel_rfl) (fun _ _ _ h => h) (by kernel_rfl) (by assumption) (by rfl) ?_ (fun hV => ?_)
      rotate_left 1
      · (intro wq; go_simp; try with_reducible rfl)
      clear hU
      have hU := hV
      clear hV
      try simp only [Act.put, List.getElem_toArray, List.getElem_cons_zero, List.getElem_cons_succ, List.setIfInBounds_toArray, List.set_cons_zero, List.set_cons_succ]
      refine AnyU.take (i := 3) (v := ?_) rfl (by kernel_rfl) (by kernel_rfl) (by kernel_rfl) (fun _ _ _ h => h) (by kernel_rfl) (by assumption) (by rfl) ?_ (fun hV => ?_)
      rotate_left 1
      · (intro wq; go_simp; try with_reducible rfl)
      clear hU
      have hU := hV
      clear hV
      try simp only [Act.put, List.getElem_toArray, List.getElem_cons_zero, List.getElem_cons_succ, List.setIfInBounds_toArray, List.set_cons_zero, List.set_cons_succ]
      refine AnyU.ready1 (i := 6) (by kernel_rfl) (AnyU.one rfl fun K hK => ?_)
      go_simp
      go_at_call 23
      refine (itoa1_c _).mono ?_
      rintro e wi ⟨rfl, hwi⟩
      obtain rfl := hwi.symm
      refine hK.out _ _ (Until.cons (fun _ => B6.out.drew) (Until.cons (fun h => absurd h (by decide)) Until.nil)) (fun hV => ?_)
      clear hK K
      clear hU
      have hU := hV
      clear hV
      try simp only [Act.put, List.getElem_toArray, List.getElem_cons_zero, List.getElem_cons_succ, List.setIfInBounds_toArray, List.set_cons_zero, List.set_cons_succ]
      refine AnyU.take (i := 7) (v := ?_) rfl (by kernel_rfl) (by kernel_rfl) (by kernel_rfl) (fun _ _ _ h => h) (by kernel_rfl) (by assumption) (by rfl) ?_ (fun hV => ?_)
      rotate_left 1
      · (intro wq; go_simp; try with_reducible rfl)
      clear hU
      have hU := hV
      clear hV
      try simp only [Act.put, List.getElem_toArray, List.getElem_cons_zero, List.getElem_cons_succ, List.setIfInBounds_toArray, List.set_cons_zero, List.set_cons_succ]
      refine AnyU.take (i := 8) (v := ?_) rfl (by kernel_rfl) (by kernel_rfl) (by kernel_rfl) (fun _ _ _ h => h) (by kernel_rfl) (by assumption) (by rfl) ?_ (fun hV => ?_)
      rotate_left 1
      · (intro wq; go_simp; try with_reducible rfl)
      clear hU
      have hU := hV
      clear hV
      try simp only [Act.put, List.getElem_toArray, List.getElem_cons_zero, List.getElem_cons_succ, List.setIfInBounds_toArray, List.set_cons_zero, List.set_cons_succ]
      refine AnyU.take (i := 11) (v := ?_) rfl (by kernel_rfl) (by kernel_rfl) (by kernel_rfl) (fun _ _ _ h => h) (by kernel_rfl) (by assumption) (by rfl) ?_ (fun hV => ?_)
      rotate_left 1
      · (intro wq; go_simp; try with_reducible rfl)
      clear hU
      have hU := hV
      clear hV
      try simp only [Act.put, List.getElem_toArray, List.getElem_cons_zero, List.getElem_cons_succ, List.setIfInBounds_toArray, List.set_cons_zero, List.set_cons_succ]
      refine AnyU.take (i := 12) (v := ?_) rfl (by kernel_rfl) (by kernel_rfl) (by kernel_rfl) (fun _ _ _ h => h) (by kernel_rfl) (by assumption) (by rfl) ?_ (fun hV => ?_)
      rotate_left 1
      · (intro wq; go_simp; try with_reducible rfl)
      clear hU
      have hU := hV
      clear hV
      try simp only [Act.put, List.getElem_toArray, List.getElem_cons_zero, List.getElem_cons_succ, List.setIfInBounds_toArray, List.set_cons_zero, List.set_cons_succ]
      refine AnyU.take (i := 15) (v := ?_) rfl (by kernel_rfl) (by kernel_rfl) (by kernel_rfl) (fun _ _ _ h => h) (by kernel_rfl) (by assumption) (by rfl) ?_ (fun hV => ?_)
      rotate_left 1
      · (intro wq; go_simp; try with_reducible rfl)
      clear hU
      have hU := hV
      clear hV
      try simp only [Act.put, List.getElem_toArray, List.getElem_cons_zero, List.getElem_cons_succ, List.setIfInBounds_toArray, List.set_cons_zero, List.set_cons_succ]
      refine AnyU.take (i := 16) (v := ?_) rfl (by kernel_rfl) (by kernel_rfl) (by kernel_rfl) (fun _ _ _ h => h) (by kernel_rfl) (by assumption) (by rfl) ?_ (fun hV => ?_)
      rotate_left 1
      · (intro wq; go_simp; try with_reducible rfl)
      clear hU
      have hU := hV
      clear hV
      try simp only [Act.put, List.getElem_toArray, List.getElem_cons_zero, List.getElem_cons_succ, List.setIfInBounds_toArray, List.set_cons_zero, List.set_cons_succ]
      refine AnyU.ready1 (i := 17) (by kernel_rfl) (AnyU.one rfl fun K hK => ?_)
      go_simp
      have e1 : ({ data := #[105, 109, 112, 111, 114, 116, 32] } : ByteArray) ++ { data := #[112] } ++ { data := #[32] } ++ { data := #[49] } ++ { data := #[32] } ++ { data := #[109] } ++ { data := #[32, 97, 115, 32] } ++ { data := #[109] } ++ { data := #[10] } = ({ data := #[105, 109, 112, 111, 114, 116, 32, 112, 32, 49, 32, 109, 32, 97, 115, 32, 109, 10] } : ByteArray) := by kernel_rfl
      rw [e1]
      go_at_call 22
      have bl0 : Lib.IsBuilder 71 5 gb gb [] (World.drew w6) := BL6.out
      refine (write_c gb gb [] { data := #[105, 109, 112, 111, 114, 116, 32, 112, 32, 49, 32, 109, 32, 97, 115, 32, 109, 10] } _ bl0 (by decide) hz6).mono ?_
      rintro e ww ⟨rfl, hbl, hbw⟩
      have hbw : Below gb w6 ww := ((Below.refl gb w6).drew).trans hbw
      have BW := Lib.hid (BK6.out.trans hbw)
      have BLW := Lib.hid hbl
      have hzw : gb ≤ ww.heap.size := Nat.le_trans hz6 hbw.size
      clear hbl hbw e1 bl0
      refine hK.out _ _ (Until.off (by kernel_rfl)) (fun hV => ?_)
      clear hK K
      clear hU
      have hU := hV
      clear hV
      try simp only [Act.put, List.getElem_toArray, List.getElem_cons_zero, List.getElem_cons_succ, List.setIfInBounds_toArray, List.set_cons_zero, List.set_cons_succ]
      refine AnyU.done (by kernel_rfl) ?_
      clear hU
      go_wp2_with fail
      exact ⟨⟨1, by go_num, by omega, BW.out, hzw, .inr BLW.out⟩, by simp [intOf]⟩
    · have hkI : ¬ (k : Int) < 1 := by omega
      have bl1 : Lib.IsBuilder 71 5 gb gb (Lib.strCells { data := #[105, 109, 112, 111, 114, 116, 32, 112, 32, 49, 32, 109, 32, 97, 115, 32, 109, 10] }) wk := by have := BL.out; rw [if_neg hk0] at this; exact this
      have BL1 := Lib.hid bl1
      clear bl1
      go_wp2_with fail
      clear k0 k1 kl
      go_loopw [44] (fun i wk => ∃ k : Nat, i = .int .i64 k ∧ k ≤ 1 ∧ Below gb w2 wk ∧ gb ≤ wk.heap.size ∧ Lib.IsBuilder 71 5 gb gb (if k = 0 then Lib.strCells { data := #[105, 109, 112, 111, 114, 116, 32, 112, 32, 49, 32, 109, 32, 97, 115, 32, 109, 10] } else Lib.strCells { data := #[105, 109, 112, 111, 114, 116, 32, 112, 32, 49, 32, 109, 32, 97, 115, 32, 109, 10] } ++ Lib.strCells { data := #[117, 115, 101, 32, 109, 46, 102, 32, 58, 32, 73, 110, 116, 10] }) wk) (fun i _ => 1 - (intOf i).toNat)
      case atStart => exact ⟨0, rfl, Nat.zero_le _, BK.out, hzk, BL1.out⟩
      case round =>
        rename World => wm
        obtain ⟨q, rfl, hq, hbm, hzm, hblm⟩ := hrel
        have BM := Lib.hid hbm
        have BLM := Lib.hid hblm
        have AM := Lib.hid (A2.out.trans (hbm.mono hgbl))
        have DM := Lib.hid (D2.out.under hbm hgw)
        clear hbm hblm
        have k0 := DM.out.cell 0
        have k1 := DM.out.cell 1
        simp at k0 k1
        have kl := DM.out.lt
        by_cases hq0 : q = 0
        · subst hq0
          have J1 := Lib.hid (H2.out.under AM.out H2.out.lt)
          have j0 := J1.out.cell 0
          have j1 := J1.out.cell 1
          have j2 := J1.out.cell 2
          have j3 := J1.out.cell 3
          have j4 := J1.out.cell 4
          have j5 := J1.out.cell 5
          have j6 := J1.out.cell 6
          have j7 := J1.out.cell 7
          have j8 := J1.out.cell 8
          have j9 := J1.out.cell 9
          simp at j0 j1 j2 j3 j4 j5 j6 j7 j8 j9
          have jl := J1.out.lt
          go_upto_region 12 with fail
          have b8 := Blk.new wm #[.int .i64 1, .string { data := #[109] }, .string { data := #[102] }, .int .i64 1, .string { data := #[] }, .int .i64 0, .string { data := #[] }, .string { data := #[] }, .slice na 0 nc, .slice sa 0 sc] 61
          have hb8 := (Below.refl wm.heap.size wm).alloc (Nat.le_refl _) (.cells #[.int .i64 1, .string { data := #[109] }, .string { data := #[102] }, .int .i64 1, .string { data := #[] }, .int .i64 0, .string { data := #[] }, .string { data := #[] }, .slice na 0 nc, .slice sa 0 sc] 61)
          have bl8 := isb_under BLM.out hb8
          have ty8 := (HT.out.under (AM.out.trans (hb8.mono AM.out.size))).mono (AM.out.trans (hb8.mono AM.out.size)).size
          generalize wm.alloc (.cells #[.int .i64 1, .string { data := #[109] }, .string { data := #[102] }, .int .i64 1, .string { data := #[] }, .int .i64 0, .string { data := #[] }, .string { data := #[] }, .slice na 0 nc, .slice sa 0 sc] 61) = w8 at b8 hb8 bl8 ty8 ⊢
          generalize wm.heap.size = g8 at b8 hb8 hzm ⊢
          have B8 := Lib.hid b8
          have BL8 := Lib.hid bl8
          have BM8 := Lib.hid (BM.out.trans (hb8.mono hzm))
          have TY8 := Lib.hid ty8
          have hz8 : gb ≤ w8.heap.size := Nat.le_trans hzm (Nat.le_of_lt b8.lt)
          clear b8 bl8 hb8 ty8 j0 j1 j2 j3 j4 j5 j6 j7 j8 j9 jl
          have j0 := B8.out.cell 0
          have j1 := B8.out.cell 1
          have j2 := B8.out.cell 2
          have j3 := B8.out.cell 3
          have j4 := B8.out.cell 4
          have j5 := B8.out.cell 5
          have j6 := B8.out.cell 6
          have j7 := B8.out.cell 7
          have j8 := B8.out.cell 8
          have j9 := B8.out.cell 9
          simp at j0 j1 j2 j3 j4 j5 j6 j7 j8 j9
          have jl := B8.out.lt
          go_upto_region 13 with (go_at_call 24; refine (printW_c na nc sa sc _ TY8.out).mono ?_; rintro e w9 ⟨rfl, hb⟩; have B9 := Lib.hid (B8.out.under hb B8.out.lt); have BL9 := Lib.hid (isb_under BL8.out hb); have BM9 := Lib.hid (BM8.out.trans (hb.mono hz8)); have hz9 : gb ≤ w9.heap.size := Nat.le_trans hz8 hb.size; clear hb j0 j1 j2 j3 j4 j5 j6 j7 j8 j9 jl)
          have j0 := B9.out.cell 0
          have j1 := B9.out.cell 1
          have j2 := B9.out.cell 2
          have j3 := B9.out.cell 3
          have j4 := B9.out.cell 4
          have j5 := B9.out.cell 5
          have j6 := B9.out.cell 6
          have j7 := B9.out.cell 7
          have j8 := B9.out.cell 8
          have j9 := B9.out.cell 9
          simp at j0 j1 j2 j3 j4 j5 j6 j7 j8 j9
          have jl := B9.out.lt
          go_wp2_with (go_at_call 22; refine (write_c gb gb (Lib.strCells { data := #[105, 109, 112, 111, 114, 116, 32, 112, 32, 49, 32, 109, 32, 97, 115, 32, 109, 10] }) { data := #[117, 115, 101, 32, 109, 46, 102, 32, 58, 32, 73, 110, 116, 10] } _ BL9.out (by decide) hz9).mono ?_; rintro e ww ⟨rfl, hbl, hbw⟩; have BW := Lib.hid (BM9.out.trans hbw); have BLW := Lib.hid hbl; have hzw : gb ≤ ww.heap.size := Nat.le_trans hz9 hbw.size; clear hbl hbw j0 j1 j2 j3 j4 j5 j6 j7 j8 j9 jl)
          exact ⟨⟨1, by go_num, by omega, BW.out, hzw, .inr BLW.out⟩, by simp [intOf]⟩
        · have hqI : ¬ (q : Int) < 1 := by omega
          have bl2 : Lib.IsBuilder 71 5 gb gb (Lib.strCells { data := #[105, 109, 112, 111, 114, 116, 32, 112, 32, 49, 32, 109, 32, 97, 115, 32, 109, 10] } ++ Lib.strCells { data := #[117, 115, 101, 32, 109, 46, 102, 32, 58, 32, 73, 110, 116, 10] }) wm := by have := BLM.out; rw [if_neg hq0] at this; exact this
          have BL2 := Lib.hid bl2
          clear bl2
          go_wp2_with (go_at_call 25; refine (string_c gb _ BL2.out).mono ?_; rintro e wf ⟨rfl, hbf⟩; have AF := Lib.hid (AM.out.trans (hbf.mono hgbl)); clear hbf)
          refine bodyPost_ret (by simp [results, Tryz.results10, go_sem]; try rfl) rfl ?_
          exact ⟨rfl, AF.out⟩
end Go.Proofs.YtbffijiecbfpnaaGreatDoor
namespace Go.Proofs.YtbffijiecbfpnaaGreatDoor
open Go.RowKit
set_option linter.unusedSimpArgs false
set_option linter.unusedVariables false
def wX : If := ⟨{ data := #[112] }, 1, { data := #[109] }, [], [bF]⟩
def wC : Chg := ⟨1, { data := #[109] }, { data := #[102] }, false⟩
theorem fair_a0 : fairB bA [] = true := by decide +kernel
theorem fair_aa : fairB bA bA = true := by decide +kernel
theorem may_a : mayP bA = true := by decide +kernel
theorem un_m0 : unionN [{ data := #[109] }] [] = [{ data := #[109] }] := rise_eq (unionN_rise _ _) (by decide +kernel) fun s => by rw [unionN_mem]; simp
theorem un_f0 : unionN [{ data := #[102] }] [] = [{ data := #[102] }] := rise_eq (unionN_rise _ _) (by decide +kernel) fun s => by rw [unionN_mem]; simp
theorem chg_a0 : chgF bA [] = [wC] := by
  have e1 : unionN (bA.map If.mod) (([] : List If).map If.mod) = [{ data := #[109] }] := un_m0
  have ea : (firstIface bA { data := #[109] }).getD zIf = wX := by kernel_rfl
  have eb : (firstIface [] { data := #[109] }).getD zIf = zIf := rfl
  have ef : oneF { data := #[109] } [bF] [] false { data := #[102] } = [wC] := by kernel_rfl
  rw [chgF, e1, List.flatMap_cons, List.flatMap_nil, List.append_nil, modF, ea, eb, rowsF, rowsF]
  show (unionN ([] : List ByteArray) []).flatMap _ ++ (unionN [bF.name] []).flatMap (oneF { data := #[109] } [bF] [] false) = _
  rw [un_0, show unionN [bF.name] [] = [{ data := #[102] }] from un_f0]
  simp only [List.flatMap_nil, List.nil_append, List.flatMap_cons, List.append_nil]
  exact ef
theorem chg_aa : chgF bA bA = [] := of_one.1 (bump_self may_a)
theorem big_a0 : bigC (chgF bA []) = some wC := by rw [chg_a0]; rfl
theorem big_aa : bigC (chgF bA bA) = none := by rw [chg_aa]; rfl
theorem first_a : firstIface bA wC.mod = some wX := by kernel_rfl
theorem first_n : firstNamed (selF wX wC.ofType) wC.name = some bF := by kernel_rfl
theorem plain_f : PlainB bF.ty = true := by decide +kernel
set_option maxRecDepth 100000 in
set_option maxHeartbeats 8000000 in
theorem upW_c (w : World) : Calls Tryz.prog 4 #[] w fun e w' => e = .returned (.bool true) ∧ Below w.heap.size w w' := by
  go_enter Tryz.func4, Tryz.ntmps4
  go_upto_region 2 with fail
  obtain ⟨b1, b2, hz, hb⟩ := twoW w #[.string { data := #[102] }, .int .i64 1, .string { data := #[] }, .int .i64 0, .string { data := #[] }, .string { data := #[] }, .slice none 0 0, .slice none 0 0] #[.string { data := #[112] }, .int .i64 1, .string { data := #[109] }, .slice none 0 0, .slice (some ⟨w.heap.size, 0, none⟩) 1 1] 43 46
  generalize ((w.alloc (.cells #[.string { data := #[102] }, .int .i64 1, .string { data := #[] }, .int .i64 0, .string { data := #[] }, .string { data := #[] }, .slice none 0 0, .slice none 0 0] 43)).alloc (.cells #[.string { data := #[112] }, .int .i64 1, .string { data := #[109] }, .slice none 0 0, .slice (some ⟨w.heap.size, 0, none⟩) 1 1] 46)) = W at b1 b2 hz hb ⊢
  have hA : IfsAt W W.heap.size (some ⟨w.heap.size + 1, 0, none⟩) bA := row_if (x := wX) (ta := none) (tc := 0) (vc := 1) b2 (by omega) ⟨⟨by decide, by decide, by decide, by decide, by decide⟩, none, 0, _, 1, rfl, NmsAt.nil _ _ _, rows_f b1 (by omega), Nat.le_refl _, Nat.le_refl _⟩
  have HA := Lib.hid hA
  have B0 := Lib.hid hb
  have k1 := fun V h1 h2 hB => brkYes_c (some ⟨w.heap.size + 1, 0, none⟩) none 1 0 W.heap.size bA [] wC wX bF V h1 h2 hB (by decide) (by decide) fair_a0 few_a rfl big_a0 first_a first_n plain_f
  have k2 := fun V h1 h2 hB => brkNone_c (some ⟨w.heap.size + 1, 0, none⟩) (some ⟨w.heap.size + 1, 0, none⟩) 1 1 W.heap.size bA bA V h1 h2 hB (by decide) (by decide) fair_aa few_a few_a big_aa
  change ∀ V, _ → _ → _ → Calls _ _ #[.slice _ 1 _, .slice _ 0 _] V _ at k1
  change ∀ V, _ → _ → _ → Calls _ _ #[.slice _ 1 _, .slice _ 1 _] V _ at k2
  have K1 := Lib.hid k1
  have K2 := Lib.hid k2
  clear hA hb b1 b2 hz k1 k2
  go_upto_region 3 with (go_at_call 6; refine (K1.out _ HA.out (IfsAt.nil _ _ _) (Nat.le_refl _)).mono ?_; rintro e w1 ⟨⟨v, rfl, hu⟩, hb⟩; obtain ⟨i1, i2, na, nc, sa, sc, rfl, hi1, hi2, hty⟩ := hu; have I1 := Lib.hid hi1; have I2 := Lib.hid hi2; have TY := Lib.hid hty; have B1 := Lib.hid hb; clear hi1 hi2 hty hb)
  have d2 := Blk.new w1 #[.slice (some ⟨i1, 0, none⟩) 1 1, .slice (some ⟨i2, 0, none⟩) 1 1] 28
  have hb2 := (Below.refl w1.heap.size w1).alloc (Nat.le_refl _) (.cells #[.slice (some ⟨i1, 0, none⟩) 1 1, .slice (some ⟨i2, 0, none⟩) 1 1] 28)
  generalize w1.alloc (.cells #[.slice (some ⟨i1, 0, none⟩) 1 1, .slice (some ⟨i2, 0, none⟩) 1 1] 28) = w2 at d2 hb2 ⊢
  have B2 := Lib.hid (B1.out.trans (hb2.mono B1.out.size))
  have HP := Lib.hid (printU_c i1 i2 na nc sa sc w2 (I1.out.under hb2 I1.out.lt) (I2.out.under hb2 I2.out.lt) ((TY.out.under hb2).mono hb2.size))
  have p0 := d2.cell 0
  have p1 := d2.cell 1
  simp at p0 p1
  have pl := d2.lt
  clear d2 hb2
  go_upto_region 4 with (go_at_call 10; refine HP.out.mono ?_; rintro e w3 ⟨rfl, hb⟩; have B3 := Lib.hid (B2.out.trans (hb.mono B2.out.size)); clear hb p0 p1 pl)
  go_upto_region 5 with (go_at_call 6; refine (K2.out _ (HA.out.under B3.out) (HA.out.under B3.out) B3.out.size).mono ?_; rintro e w4 ⟨rfl, hb⟩; have B4 := Lib.hid (B3.out.trans (hb.mono B3.out.size)); clear hb)
  go_wp2_with fail
  go_ret
  exact ⟨rfl, (B0.out.trans (B4.out.mono B0.out.size)).alloc (Nat.le_trans B0.out.size B4.out.size) _⟩
end Go.Proofs.YtbffijiecbfpnaaGreatDoor
namespace Go.Proofs.YtbffijiecbfpnaaGreatDoor
open Go.RowKit
set_option linter.unusedSimpArgs false
set_option linter.unusedVariables false
theorem may_of {a b : List If} (h : fairB a b = true) : mayP a = true ∧ mayP b = true := by
  rw [fairB, Bool.and_eq_true, Bool.and_eq_true] at h
  exact ⟨h.1, h.2.1⟩
set_option maxRecDepth 100000 in
set_option maxHeartbeats 8000000 in
theorem wtells_c (A A' : Option Addr) (c c' B : Nat) (x y : List If) (w : World) (h1 : IfsAt w B A x) (h2 : IfsAt w B A' y) (hB : B ≤ w.heap.size) (hl : x.length ≤ maxLen) (hl' : y.length ≤ maxLen) :
    Calls Tryz.prog 3 #[.slice A x.length c, .slice A' y.length c'] w fun e w' => e = .returned (.bool true) ∧ Below w.heap.size w w' := by
  have H1 := Lib.hid h1
  have H2 := Lib.hid h2
  have F1 := fun w h hB => FewI_c x A c B w h hB hl
  have F2 := fun w h hB => FewI_c y A' c' B w h hB hl'
  obtain ⟨f1, e1⟩ : ∃ f, FewI x = f := ⟨_, rfl⟩
  obtain ⟨f2, e2⟩ : ∃ f, FewI y = f := ⟨_, rfl⟩
  simp only [e1] at F1
  simp only [e2] at F2
  have G1 := Lib.hid F1
  have G2 := Lib.hid F2
  have E1 := Lib.hid e1
  have E2 := Lib.hid e2
  clear h1 h2 F1 F2 e1 e2
  have ee := eq_err
  have en := eq_errnil
  have ne := neq_errnil
  go_enter Tryz.func3, Tryz.ntmps3
  go_upto_region 2 with (go_at_call 4; refine (upW_c w).mono ?_; rintro e w1 ⟨rfl, hb⟩; have B1 := Lib.hid hb; clear hb)
  go_upto_region 3 with (go_at_call 5; refine (G1.out _ (H1.out.under (B1.out.mono hB)) (Nat.le_trans hB B1.out.size)).mono ?_; rintro e w2 ⟨rfl, hb⟩; have B2 := Lib.hid (B1.out.trans (hb.mono B1.out.size)); clear hb)
  go_upto_region 4 with (go_at_call 5; refine (G2.out _ (H2.out.under (B2.out.mono hB)) (Nat.le_trans hB B2.out.size)).mono ?_; rintro e w3 ⟨rfl, hb⟩; have B3 := Lib.hid (B2.out.trans (hb.mono B2.out.size)); clear hb)
  clear B1 B2
  cases f1
  · go_wp2_with fail
    go_ret
    exact ⟨rfl, B3.out⟩
  cases f2
  · go_wp2_with fail
    go_ret
    exact ⟨rfl, B3.out⟩
  have fa := E1.out
  have fb := E2.out
  rw [FewI, Bool.and_eq_true, decide_eq_true_eq] at fa fb
  obtain ⟨ha, hfa⟩ := fa
  obtain ⟨hb, hfb⟩ := fb
  have FR := fun w h1 h2 hB => fair_c A A' c c' B x y w h1 h2 hB (by omega) (by omega) hfa hfb
  have hB3 : B ≤ w3.heap.size := Nat.le_trans hB B3.out.size
  have H13 := Lib.hid (H1.out.under (B3.out.mono hB))
  have H23 := Lib.hid (H2.out.under (B3.out.mono hB))
  cases hf : fairB x y
  · have C1 := brkNo_c A A' c c' B x y w3 H13.out H23.out hB3 (by omega) (by omega) hf
    simp only [hf] at FR
    have K1 := Lib.hid C1
    have K7 := Lib.hid FR
    clear C1 FR hf ha hb hfa hfb E1 E2 G1 G2 hl hl'
    go_upto_region 7 with (go_at_call 6; refine K1.out.mono ?_; rintro e w4 ⟨rfl, hb⟩; have B4 := Lib.hid (B3.out.trans (hb.mono B3.out.size)); clear hb)
    have d8 := Blk.new w4 #[.slice none 0 0, .slice none 0 0] 28
    have hb8 := (Below.refl w4.heap.size w4).alloc (Nat.le_refl _) (.cells #[.slice none 0 0, .slice none 0 0] 28)
    generalize w4.alloc (.cells #[.slice none 0 0, .slice none 0 0] 28) = w5 at d8 hb8 ⊢
    have D8 := Lib.hid d8
    have B5 := Lib.hid (B4.out.trans (hb8.mono B4.out.size))
    generalize w4.heap.size = g8 at d8 hb8 D8 ⊢
    clear d8 hb8
    go_upto_region 8 with (go_at_call 7; refine (K7.out _ (H1.out.under (B5.out.mono hB)) (H2.out.under (B5.out.mono hB)) (Nat.le_trans hB B5.out.size)).mono ?_; rintro e w6 ⟨rfl, hb⟩; have B6 := Lib.hid (B5.out.trans (hb.mono B5.out.size)); have D9 := Lib.hid (D8.out.under hb D8.out.lt); clear hb)
    have p0 := D9.out.cell 0
    have p1 := D9.out.cell 1
    simp at p0 p1
    have pl := D9.out.lt
    go_wp2_with (go_at_call 8; refine (usame0_c _).mono ?_; rintro e w7 ⟨rfl, hb⟩; have B7 := Lib.hid (B6.out.trans (hb.mono B6.out.size)); clear hb)
    go_ret
    exact ⟨rfl, B7.out⟩
  · obtain ⟨ma, mb⟩ := may_of hf
    cases hbig : bigC (chgF x y) with
    | none =>
      have C1 := brkNone_c A A' c c' B x y w3 H13.out H23.out hB3 (by omega) (by omega) hf hfa hfb hbig
      have C2 := fun w h1 h2 hB => wantNone_c A A' c c' B x y w h1 h2 hB (by omega) (by omega) hfa hfb ma mb hbig
      simp only [hf] at FR
      have K1 := Lib.hid C1
      have K2 := Lib.hid C2
      have K7 := Lib.hid FR
      clear C1 C2 FR hf ha hb hfa hfb E1 E2 G1 G2 hl hl' ma mb hbig
      go_upto_region 7 with (go_at_call 6; refine K1.out.mono ?_; rintro e w4 ⟨rfl, hb⟩; have B4 := Lib.hid (B3.out.trans (hb.mono B3.out.size)); clear hb)
      have d8 := Blk.new w4 #[.slice none 0 0, .slice none 0 0] 28
      have hb8 := (Below.refl w4.heap.size w4).alloc (Nat.le_refl _) (.cells #[.slice none 0 0, .slice none 0 0] 28)
      generalize w4.alloc (.cells #[.slice none 0 0, .slice none 0 0] 28) = w5 at d8 hb8 ⊢
      have D8 := Lib.hid d8
      have B5 := Lib.hid (B4.out.trans (hb8.mono B4.out.size))
      generalize w4.heap.size = g8 at d8 hb8 D8 ⊢
      clear d8 hb8
      go_upto_region 8 with (go_at_call 7; refine (K7.out _ (H1.out.under (B5.out.mono hB)) (H2.out.under (B5.out.mono hB)) (Nat.le_trans hB B5.out.size)).mono ?_; rintro e w6 ⟨rfl, hb⟩; have B6 := Lib.hid (B5.out.trans (hb.mono B5.out.size)); have D9 := Lib.hid (D8.out.under hb D8.out.lt); clear hb)
      go_upto_region 11 with (go_at_call 9; refine (K2.out _ (H1.out.under (B6.out.mono hB)) (H2.out.under (B6.out.mono hB)) (Nat.le_trans hB B6.out.size)).mono ?_; rintro e w7 ⟨rfl, hb⟩; have B7 := Lib.hid (B6.out.trans (hb.mono B6.out.size)); have D10 := Lib.hid (D9.out.under hb D9.out.lt); clear hb)
      have d12 := Blk.new w7 #[.slice none 0 0, .slice none 0 0] 28
      have hb12 := (Below.refl w7.heap.size w7).alloc (Nat.le_refl _) (.cells #[.slice none 0 0, .slice none 0 0] 28)
      generalize w7.alloc (.cells #[.slice none 0 0, .slice none 0 0] 28) = w8 at d12 hb12 ⊢
      have B8 := Lib.hid (B7.out.trans (hb12.mono B7.out.size))
      have d8 := D10.out.under hb12 D10.out.lt
      generalize w7.heap.size = g12 at d12 hb12 ⊢
      have p0 := d8.cell 0
      have p1 := d8.cell 1
      have q0 := d12.cell 0
      have q1 := d12.cell 1
      simp at p0 p1 q0 q1
      have pl := d8.lt
      have ql := d12.lt
      clear d8 d12 hb12
      go_wp2_with (go_at_call 8; refine (usame0_c _).mono ?_; rintro e w9 ⟨rfl, hb⟩; have B9 := Lib.hid (B8.out.trans (hb.mono B8.out.size)); clear hb)
      go_ret
      exact ⟨rfl, B9.out⟩
    | some cc =>
      obtain ⟨-, xx, nn, hxx, hnn, hlk⟩ := big_had hbig
      have hpp := look_plain ma hlk
      have C1 := brkYes_c A A' c c' B x y cc xx nn w3 H13.out H23.out hB3 (by omega) (by omega) hf hfa hfb hbig hxx hnn hpp
      have C2 := fun w h1 h2 hB => wantYes_c A A' c c' B x y cc xx nn w h1 h2 hB (by omega) (by omega) hf hfa hfb ma mb hbig hxx hnn
      simp only [hf] at FR
      have K1 := Lib.hid C1
      have K2 := Lib.hid C2
      have K7 := Lib.hid FR
      clear C1 C2 FR hf ha hb hfa hfb E1 E2 G1 G2 hl hl' ma mb hbig hxx hnn hlk hpp
      go_upto_region 7 with (go_at_call 6; refine K1.out.mono ?_; rintro e w4 ⟨⟨v1, rfl, hu⟩, hb⟩; have B4 := Lib.hid (B3.out.trans (hb.mono B3.out.size)); obtain ⟨i1, i2, na, nc, sa, sc, rfl, hi⟩ := hu; have U4 := Lib.hid (show UAt w4 (.agg #[.slice (some ⟨i1, 0, none⟩) 1 1, .slice (some ⟨i2, 0, none⟩) 1 1]) (some ⟨xx, cc, nn.ty⟩) from ⟨i1, i2, na, nc, sa, sc, rfl, hi⟩); clear hb hi)
      have d8 := Blk.new w4 #[.slice (some ⟨i1, 0, none⟩) 1 1, .slice (some ⟨i2, 0, none⟩) 1 1] 28
      have hb8 := (Below.refl w4.heap.size w4).alloc (Nat.le_refl _) (.cells #[.slice (some ⟨i1, 0, none⟩) 1 1, .slice (some ⟨i2, 0, none⟩) 1 1] 28)
      generalize w4.alloc (.cells #[.slice (some ⟨i1, 0, none⟩) 1 1, .slice (some ⟨i2, 0, none⟩) 1 1] 28) = w5 at d8 hb8 ⊢
      have D8 := Lib.hid d8
      have U5 := Lib.hid (U4.out.under hb8)
      have B5 := Lib.hid (B4.out.trans (hb8.mono B4.out.size))
      generalize w4.heap.size = g8 at d8 hb8 D8 ⊢
      clear d8 hb8
      go_upto_region 8 with (go_at_call 7; refine (K7.out _ (H1.out.under (B5.out.mono hB)) (H2.out.under (B5.out.mono hB)) (Nat.le_trans hB B5.out.size)).mono ?_; rintro e w6 ⟨rfl, hb⟩; have B6 := Lib.hid (B5.out.trans (hb.mono B5.out.size)); have D9 := Lib.hid (D8.out.under hb D8.out.lt); have U6 := Lib.hid (U5.out.under hb); clear hb)
      go_upto_region 11 with (go_at_call 9; refine (K2.out _ (H1.out.under (B6.out.mono hB)) (H2.out.under (B6.out.mono hB)) (Nat.le_trans hB B6.out.size)).mono ?_; rintro e w7 ⟨⟨v2, rfl, hu⟩, hb⟩; have B7 := Lib.hid (B6.out.trans (hb.mono B6.out.size)); have D10 := Lib.hid (D9.out.under hb D9.out.lt); have U7 := Lib.hid (U6.out.under hb); obtain ⟨j1, j2, na2, nc2, sa2, sc2, rfl, hj⟩ := hu; have V7 := Lib.hid (show UAt w7 (.agg #[.slice (some ⟨j1, 0, none⟩) 1 1, .slice (some ⟨j2, 0, none⟩) 1 1]) (some ⟨xx, cc, nn.ty⟩) from ⟨j1, j2, na2, nc2, sa2, sc2, rfl, hj⟩); clear hb hj)
      have d12 := Blk.new w7 #[.slice (some ⟨j1, 0, none⟩) 1 1, .slice (some ⟨j2, 0, none⟩) 1 1] 28
      have hb12 := (Below.refl w7.heap.size w7).alloc (Nat.le_refl _) (.cells #[.slice (some ⟨j1, 0, none⟩) 1 1, .slice (some ⟨j2, 0, none⟩) 1 1] 28)
      generalize w7.alloc (.cells #[.slice (some ⟨j1, 0, none⟩) 1 1, .slice (some ⟨j2, 0, none⟩) 1 1] 28) = w8 at d12 hb12 ⊢
      have B8 := Lib.hid (B7.out.trans (hb12.mono B7.out.size))
      have HS := Lib.hid (usame1_c ⟨xx, cc, nn.ty⟩ _ _ w8 (U7.out.under hb12) (V7.out.under hb12))
      have d8 := D10.out.under hb12 D10.out.lt
      generalize w7.heap.size = g12 at d12 hb12 ⊢
      have p0 := d8.cell 0
      have p1 := d8.cell 1
      have q0 := d12.cell 0
      have q1 := d12.cell 1
      simp at p0 p1 q0 q1
      have pl := d8.lt
      have ql := d12.lt
      clear d8 d12 hb12
      go_wp2_with (go_at_call 8; refine HS.out.mono ?_; rintro e w9 ⟨rfl, hb⟩; have B9 := Lib.hid (B8.out.trans (hb.mono B8.out.size)); clear hb)
      go_ret
      exact ⟨rfl, B9.out⟩
end Go.Proofs.YtbffijiecbfpnaaGreatDoor
namespace Go.Proofs.YtbffijiecbfpnaaGreatDoor
open Go.ChangeShapes Go.WideShapes Go.ChangeAt Go.RowKit Go.Deep
section
variable {H : Type} {enc : TypeId × Value → H} {w : World} {base : Nat} {spare : Nat → Bool} {held : Bool}
set_option linter.unusedSimpArgs false
set_option linter.unusedVariables false
/-- a slice of structs of K cells -/
theorem row_trod {K : Nat} {α : Type} {e st : TypeId} (z : α) {Q : α → Array Value → Prop} (hu : (Tryz.prog).underlying st = some (.slice e)) (hC : Program.cellsOf Tryz.prog e = K) (hK : 0 < K)
    (hQ : ∀ (fuel : Nat) (cs : List Value) (x : DataW H × List MemPlace), DataW.trod enc Tryz.prog w base spare held fuel e cs = some x → ∃ t, Q t cs.toArray)
    {fuel : Nat} {cs : List Value} {x : DataW H × List MemPlace} (h : DataW.trod enc Tryz.prog w base spare held fuel st cs = some x) :
    ∃ A cap, ∃ l : List α, ∃ f : Nat → Array Value, cs = [.slice A l.length cap] ∧ l.length ≤ cap ∧ cap ≤ maxLen ∧ RowsK K w w.heap.size A l.length f ∧ ∀ i (h : i < l.length), Q l[i] (f i) := by
  rcases DataW.trod_slice hu h with ⟨rfl, -⟩ | ⟨a, len, cap, elems, rest, n, -, rfl, -, -, hlc, hcm, hel, hev, -, -⟩
  · exact ⟨none, 0, [], fun _ => #[], rfl, Nat.le_refl _, by simp [maxLen], .inl rfl, fun i hi => absurd hi (by simp)⟩
  · have hh : ∀ i, ∃ p : α × Array Value, i < len → Q p.1 p.2 ∧ p.2.size = K ∧ ∀ j, j < p.2.size → w.cell? (a.add (i * K + j)) = p.2[j]? := by
      intro i
      by_cases hi : i < len
      · have ev := hev i hi
        rw [List.getElem?_eq_getElem (by omega)] at ev
        obtain ⟨cs', hc, ht⟩ := Option.bind_eq_some_iff.1 ev
        obtain ⟨t, htc⟩ := hQ n cs' _ ht
        obtain ⟨-, hl, hat⟩ := World.cells?_some hc
        rw [hC] at hat hl
        refine ⟨(t, cs'.toArray), fun _ => ⟨htc, by simpa using hl, fun j hj => ?_⟩⟩
        have := hat j (by simpa [hl] using hj)
        rw [← Go.Deep.add_add, this]
        simp
      · exact ⟨(z, #[]), fun h => absurd h hi⟩
    obtain ⟨S, hS⟩ := Classical.axiomOfChoice hh
    have hlen : ((List.range len).map fun i => (S i).1).length = len := by simp
    refine ⟨some a, cap, (List.range len).map fun i => (S i).1, fun i => (S i).2, by rw [hlen], by omega, hcm, ?_, fun i hi => ?_⟩
    · rw [hlen]
      by_cases h0 : len = 0
      · exact .inl h0
      · have hz := (hS 0 (by omega)).2.1
        have e0 := (hS 0 (by omega)).2.2 0 (by omega)
        rw [Array.getElem?_eq_getElem (by omega)] at e0
        have := cell_lt e0
        obtain ⟨b, o, sp⟩ := a
        simp [Addr.add] at this
        obtain ⟨hb, rfl⟩ := this
        refine .inr ⟨b, o, rfl, hb, fun i hi j hj => ?_⟩
        have := (hS i hi).2.2 j hj
        rw [add_at] at this
        rw [← this, Nat.add_assoc]
    · rw [hlen] at hi
      simp only [List.getElem_map, List.getElem_range]
      exact (hS i hi).1
set_option maxRecDepth 100000 in
theorem nm_trod (fuel : Nat) (cs : List Value) (x : DataW H × List MemPlace) (h : DataW.trod enc Tryz.prog w base spare held fuel 43 cs = some x) : ∃ t, NmC w w.heap.size t cs.toArray := by
  obtain ⟨xs, n, rfl, -, hcl, hxl, hf⟩ := DataW.trod_struct Tryz.underlying43 h
  have hC : Program.cellsOf Tryz.prog 43 = 8 := by kernel_rfl
  have hC1 : Program.cellsOf Tryz.prog 9 = 1 := by kernel_rfl
  have hC2 : Program.cellsOf Tryz.prog 41 = 7 := by kernel_rfl
  rw [hC] at hcl
  match cs, hcl with
  | [c0, c1, c2, c3, c4, c5, c6, c7], _ =>
  match xs, hxl with
  | [y0, y1], _ =>
  have e0 : DataW.trod enc Tryz.prog w base spare held n 9 (([c0, c1, c2, c3, c4, c5, c6, c7].drop 0).take (Program.cellsOf Tryz.prog 9)) = some y0 := hf 0 _ rfl
  rw [hC1] at e0
  change DataW.trod enc Tryz.prog w base spare held n 9 [c0] = some y0 at e0
  have e1 : DataW.trod enc Tryz.prog w base spare held n 41 (([c0, c1, c2, c3, c4, c5, c6, c7].drop 1).take (Program.cellsOf Tryz.prog 41)) = some y1 := hf 1 _ rfl
  rw [hC2] at e1
  change DataW.trod enc Tryz.prog w base spare held n 41 [c1, c2, c3, c4, c5, c6, c7] = some y1 at e1
  obtain ⟨s, h0, -, w0⟩ := DataW.trod_string Tryz.underlying9 e0
  obtain ⟨t, ht⟩ := type_trod _ _ _ e1
  obtain ⟨na, nc, sa, sc, f, hc, -⟩ := ht.inv
  refine ⟨⟨s, t⟩, w0, na, nc, sa, sc, ?_, by rw [← hc]; exact ht⟩
  simp only [List.cons.injEq, and_true] at h0
  subst h0
  simp [tyCells] at hc
  simp [nmCells, hc]
set_option maxRecDepth 100000 in
theorem nms_trod {fuel : Nat} {cs : List Value} {x : DataW H × List MemPlace} (h : DataW.trod enc Tryz.prog w base spare held fuel 44 cs = some x) :
    ∃ A cap, ∃ l : List Nm, cs = [.slice A l.length cap] ∧ l.length ≤ cap ∧ cap ≤ maxLen ∧ NmsAt w w.heap.size A l := by
  obtain ⟨A, cap, l, f, h1, h2, h3, h4, h5⟩ := row_trod (K := 8) (Q := NmC w w.heap.size) ⟨{ data := #[] }, .mk 0 { data := #[] } 0 { data := #[] } { data := #[] } [] []⟩ Tryz.underlying44 (by kernel_rfl) (by decide) nm_trod h
  exact ⟨A, cap, l, h1, h2, h3, f, h4, h5⟩
set_option maxRecDepth 100000 in
theorem if_trod (fuel : Nat) (cs : List Value) (x : DataW H × List MemPlace) (h : DataW.trod enc Tryz.prog w base spare held fuel 46 cs = some x) : ∃ t, IfC w w.heap.size t cs.toArray := by
  obtain ⟨xs, n, rfl, -, hcl, hxl, hf⟩ := DataW.trod_struct Tryz.underlying46 h
  have hC : Program.cellsOf Tryz.prog 46 = 5 := by kernel_rfl
  have hC1 : Program.cellsOf Tryz.prog 9 = 1 := by kernel_rfl
  have hC2 : Program.cellsOf Tryz.prog 3 = 1 := by kernel_rfl
  have hC3 : Program.cellsOf Tryz.prog 44 = 1 := by kernel_rfl
  rw [hC] at hcl
  match cs, hcl with
  | [c0, c1, c2, c3, c4], _ =>
  match xs, hxl with
  | [y0, y1, y2, y3, y4], _ =>
  have e0 : DataW.trod enc Tryz.prog w base spare held n 9 (([c0, c1, c2, c3, c4].drop 0).take (Program.cellsOf Tryz.prog 9)) = some y0 := hf 0 _ rfl
  rw [hC1] at e0
  change DataW.trod enc Tryz.prog w base spare held n 9 [c0] = some y0 at e0
  have e1 : DataW.trod enc Tryz.prog w base spare held n 3 (([c0, c1, c2, c3, c4].drop 1).take (Program.cellsOf Tryz.prog 3)) = some y1 := hf 1 _ rfl
  rw [hC2] at e1
  change DataW.trod enc Tryz.prog w base spare held n 3 [c1] = some y1 at e1
  have e2 : DataW.trod enc Tryz.prog w base spare held n 9 (([c0, c1, c2, c3, c4].drop 2).take (Program.cellsOf Tryz.prog 9)) = some y2 := hf 2 _ rfl
  rw [hC1] at e2
  change DataW.trod enc Tryz.prog w base spare held n 9 [c2] = some y2 at e2
  have e3 : DataW.trod enc Tryz.prog w base spare held n 44 (([c0, c1, c2, c3, c4].drop 3).take (Program.cellsOf Tryz.prog 44)) = some y3 := hf 3 _ rfl
  rw [hC3] at e3
  change DataW.trod enc Tryz.prog w base spare held n 44 [c3] = some y3 at e3
  have e4 : DataW.trod enc Tryz.prog w base spare held n 44 (([c0, c1, c2, c3, c4].drop 4).take (Program.cellsOf Tryz.prog 44)) = some y4 := hf 4 _ rfl
  rw [hC3] at e4
  change DataW.trod enc Tryz.prog w base spare held n 44 [c4] = some y4 at e4
  clear hf h
  obtain ⟨pk, h0, -, w0⟩ := DataW.trod_string Tryz.underlying9 e0
  obtain ⟨mj, h1, -, w1⟩ := DataW.trod_int Tryz.underlying3 e1
  obtain ⟨mo, h2, -, w2⟩ := DataW.trod_string Tryz.underlying9 e2
  obtain ⟨ta, tc, tl, h3, htc, htm, hT⟩ := nms_trod e3
  obtain ⟨va, vc, vl, h4, hvc, hvm, hV⟩ := nms_trod e4
  simp only [List.cons.injEq, and_true] at h0 h1 h2 h3 h4
  subst h0 h1 h2 h3 h4
  exact ⟨⟨pk, mj, mo, tl, vl⟩, ⟨w0, w2, bounds_i64 w1, Nat.le_trans htc htm, Nat.le_trans hvc hvm⟩, ta, tc, va, vc, rfl, hT, hV, htc, hvc⟩
set_option maxRecDepth 100000 in
theorem ifs_trod {fuel : Nat} {cs : List Value} {x : DataW H × List MemPlace} (h : DataW.trod enc Tryz.prog w base spare held fuel 22 cs = some x) :
    ∃ A cap, ∃ l : List If, cs = [.slice A l.length cap] ∧ l.length ≤ cap ∧ cap ≤ maxLen ∧ IfsAt w w.heap.size A l := by
  obtain ⟨A, cap, l, f, h1, h2, h3, h4, h5⟩ := row_trod (K := 5) (Q := IfC w w.heap.size) ⟨{ data := #[] }, 0, { data := #[] }, [], []⟩ Tryz.underlying22 (by kernel_rfl) (by decide) if_trod h
  exact ⟨A, cap, l, h1, h2, h3, f, h4, h5⟩
set_option maxRecDepth 100000 in
theorem open_ifs {r : Reach} {b0 : Nat} {v : Value} {d : DataW H} {p : List MemPlace} (hv : Value.okWide Tryz.prog w r b0 22 v) (h : DataW.Trod enc Tryz.prog w base spare held 22 v d p) :
    ∃ A cap, ∃ l : List If, v = .slice A l.length cap ∧ l.length ≤ cap ∧ cap ≤ maxLen ∧ IfsAt w w.heap.size A l := by
  obtain ⟨a0, len, cap0, rfl⟩ := okWide_slice Tryz.underlying22 hv
  obtain ⟨fuel, hf⟩ := h
  obtain ⟨A, cap, l, h1, h2, h3, h4⟩ := ifs_trod hf
  simp only [Value.cells, List.cons.injEq, and_true] at h1
  exact ⟨A, cap, l, h1, h2, h3, h4⟩
end
end Go.Proofs.YtbffijiecbfpnaaGreatDoor
namespace Go.Proofs.YtbffijiecbfpnaaGreatDoor
open Go.ChangeShapes Go.WideShapes Go.ChangeAt Go.RowKit
open Go.ChangeMaps (open_string shut_string)
namespace tells
theorem own : ownKnob Tryz.prog.godebug = none := by kernel_rfl
theorem laidOut : laidOutB Tryz.prog = true := by kernel_rfl
def put0 (h : Array Obj) (g : Nat) (cs : Array Value) : Array Obj := h.modify g fun
  | .cells _ t frozen => .cells cs t frozen
  | o => o
def num1 (d : DataW Unit) : List Value := match d with
  | .lit (.int k n) => [Value.int k n]
  | _ => []
def num2 (d : DataW Unit) : List Value := match d with
  | .agg l => l.flatMap num1
  | x => num1 x
def dat (d : DataW Unit) : Array Value := match d with
  | .agg l => (l.flatMap num2).toArray
  | _ => #[]
/-- a world that meets the condition: the settled one, the listed tables laid -/
noncomputable def laidWorld (os : Os) : World :=
  let w0 := World.holding Tryz.prog os ⟨#[], #[], []⟩
  { w0 with heap := put0 (put0 (put0 (w0.heap) 1 (dat Rows.laid_math_bits_deBruijn32tab)) 2 (dat Rows.laid_math_bits_deBruijn64tab)) 0 (dat Rows.laid_internal_strconv_uint64pow10) }
theorem laid_met (os : Os) (args : Array Value) : laidMetH Tryz.prog Rows.witnessTellsRow.laid ((laidWorld os).forCall (fun _ _ => 0) ⟨#[], args, []⟩).memory :=
  (laidMet_of_run3 10 (by kernel_rfl) (by kernel_rfl) (by kernel_rfl) : laidMet Tryz.prog Rows.witnessTellsRow.laid ((laidWorld os).forCall (fun _ _ => 0) ⟨#[], args, []⟩).memory)
theorem reads (os : Os) {H : Type} (enc : TypeId × Value → H) : ∃ places, DataW.whole enc Tryz.prog ((laidWorld os).forCall (fun _ _ => 0) ⟨#[], #[.slice none 0 0, .slice none 0 0], []⟩).memory Tryz.f3.params.toList Rows.witnessTellsSpec.vars false (#[.slice none 0 0, .slice none 0 0] : Array Value).toList 8 = some ([.nil, .nil], [], places) :=
  ⟨[], by kernel_rfl⟩
set_option maxRecDepth 100000 in
theorem lifted (os : Os) (started : os.Started) (H : Type) (enc : TypeId × Value → H) (F : Stop.Interp) :
    ReturnsInHanded {} Tryz.checked os 3 .any ((OpenSpec.ofChange Rows.witnessTellsSpec).preRow enc Tryz.prog Tryz.f3 Rows.witnessTellsRow.domain false Rows.witnessTellsRow.laid) (((OpenSpec.ofChange Rows.witnessTellsSpec).at F).post enc Tryz.prog Tryz.f3 false true false false) := by
  obtain ⟨places, hx⟩ := reads os enc
  refine returnsInHanded_of_row (C := Tryz.checked) (s := (OpenSpec.ofChange Rows.witnessTellsSpec)) own started (by kernel_rfl) Tryz.func3
    (witness_row_at (enc := enc) (C := Tryz.checked) false (laidWorld os) #[.slice none 0 0, .slice none 0 0] rfl (by kernel_rfl) (by kernel_rfl) (by kernel_rfl)
      (OpenSpec.preRow_of_cond 8 hx (by kernel_rfl) (fun k hk => by cases hk) (by kernel_rfl) (laid_met os _))) ?_
  intro W base args ds gs before hval0 hW _ hcond _ hL hsh _
  have hval : ∀ (j : Nat) t v, Tryz.f3.params[j]? = some t → args[j]? = some v → Value.okWide Tryz.prog W .any base t v := hval0
  have hW' := hW
  obtain ⟨p, q, hA0, hV, rfl, hfz, hnd⟩ := hW
  have hA : DataW.TrodAll enc Tryz.prog W 0 (fun _ => true) true Tryz.f3.params.toList args.toList ds p := hA0
  rw [Tryz.params3] at hA hval
  obtain ⟨v0, vs0, d0, ds0, p0, q0, hargs, rfl, rfl, h0, r0⟩ := trodAll_cons hA
  obtain ⟨v1, vs1, d1, ds1, p1, q1, rfl, rfl, rfl, h1, r1⟩ := trodAll_cons r0
  obtain ⟨rfl, rfl, rfl⟩ := trodAll_nil r1
  obtain rfl : args = #[v0, v1] := by cases args; simp_all
  obtain ⟨rfl, rfl⟩ := trodVars_none hV
  have g0 := h0
  have g1 := h1
  obtain ⟨A1, c1, l1, rfl, hlc1, hcm1, ht1⟩ := open_ifs (hval 0 22 v0 rfl rfl) h0
  obtain ⟨A2, c2, l2, rfl, hlc2, hcm2, ht2⟩ := open_ifs (hval 1 22 v1 rfl rfl) h1
  have hlt := hW'.lt
  clear hA0 hval0
  refine (wtells_c A1 A2 c1 c2 W.heap.size l1 l2 W ht1 ht2 (Nat.le_refl _) (Nat.le_trans hlc1 hcm1) (Nat.le_trans hlc2 hcm2)).mono fun e W' ⟨he, bel⟩ => ?_
  subst he
  have a0 := Below.trod laidOut (by kernel_rfl) (of_decide_eq_true (by kernel_rfl)) g0 bel (fun x hx => by first | exact absurd hx List.not_mem_nil | exact hlt x (by simp [hx]))
  have a1 := Below.trod laidOut (by kernel_rfl) (of_decide_eq_true (by kernel_rfl)) g1 bel (fun x hx => by first | exact absurd hx List.not_mem_nil | exact hlt x (by simp [hx]))
  exact ⟨_, rfl, _, _, _, [], _, [], hW', trodAll_mk1 (shut_bool Tryz.underlying4 _), (trodAll_cons_mk a0 (trodAll_cons_mk a1 trodAll_mk0)), rfl, bel.frame _, fun h => by cases h⟩
theorem said : Rows.WitnessTellsSaid :=
  OpenClaim.holds_of_cond 3 Tryz.f3 rfl rfl rfl rfl rfl rfl rfl ⟨rfl, rfl, rfl, rfl, rfl⟩ rfl rfl rfl rfl rfl (by kernel_rfl) Tryz.func3 (by kernel_rfl)
    (of_decide_eq_true (by kernel_rfl)) (by unfold Func.isWrapper; first | (rw [if_pos (by decide +kernel)]; kernel_rfl) | (rw [if_neg (by decide +kernel)]; exact ⟨rfl, rfl⟩))
    (fun os started H enc _ F => by rw [OpenClaim.pre_eq_preRow]; exact lifted os started H enc F)
end tells
theorem tells_holds : Rows.WitnessTellsCardSaid :=
  Claim7.holds_tied_plain_at .later [] _ _ _ _ tells.said (fun _ h => by cases h) (by kernel_rfl) (fun _ h => by cases h) witnessTells_row_tie rfl ⟨rfl, rfl⟩ (by kernel_rfl) rfl
    (fun f fn hf hfn => by
      obtain rfl : f = 3 := Option.some.inj ((show (Tryz.prog).funcNamed "merlon/merlonlaw13.WitnessTells" = some 3 by kernel_rfl).symm.trans hf) |>.symm
      obtain rfl : fn = Tryz.f3 := (Option.some.inj (Tryz.func3.symm.trans hfn)).symm
      exact ⟨by kernel_rfl, fun j t ht => by
        rw [Tryz.params3] at ht
        have h3 : t = 22 := by
          rcases j with _ | _ | j
          · simpa using ht.symm
          · simpa using ht.symm
          · simp at ht
        rcases h3 with rfl
        exact (show (Tryz.prog).wantsStandIn 22 = false by kernel_rfl)⟩)
    (by kernel_rfl)
#print axioms tells_holds
end Go.Proofs.YtbffijiecbfpnaaGreatDoor
