/- Laid by the shelf's commands (lay-shelf.mjs, lay-plain.mjs): contracts of the library at this dump: Builder_String. -/
import Derived.Shelf.Strings.Builder1
import Derived.Shelf.Strings.Builder2
import Derived.Shelf.Strings.OnBuilder
import Derived.Shelf.Small.Bits
import Derived.Shelf.Strings.BuilderF
import Derived.Shelf.Strings.BuilderK
import Derived.Shelf.Strings.Builder2Cap
import Derived.Shelf.Strconv.Itoa0
import Derived.Shelf.Strconv.Itoa1
import Derived.Shelf.LaysM
import Derived.Shelf.Strconv.Itoa2
import Derived.Shelf.Strconv.Itoa3
import Derived.Shelf.Sort.Plain
import Derived.Shelf.Strings.BuilderCap
import Derived.Shelf.Slices.Turned
import Derived.Shelf.Slices.Equal
import Derived.Ground.Names2Prog
import Derived.Shelf.Slices.Clone
import Derived.Shelf.Slices.CompactS
import Derived.Shelf.Slices.Cells
import Derived.Shelf.Slices.In.SortNone
import Derived.Shelf.Slices.Empties2
import Derived.Ground.SlgnProg
import Derived.Shelf.SlicesE.Clone
import Derived.Test.YtjeldfipipkfiaaGreatDoorProg
import Derived.Test.YtjeldfipipkfiaaGreatDoorShelfB
import Derived.Test.YtjeldfipipkfiaaGreatDoorBrkC
import Derived.Test.YtjeldfipipkfiaaGreatDoorUpB
namespace Go.Proofs
open Go.Shelf
def Tryz.lays169_ren : Go.Shelf.Ren := ⟨fun | 169 => 141 | n => n, fun | 70 => 173 | 9 => 9 | 0 => 0 | 72 => 176 | 37 => 174 | 127 => 229 | 3 => 3 | 5 => 5 | n => n, fun | n => n⟩
theorem Tryz.lays169 : Go.Proofs.Lays.n169 Tryz.prog Tryz.lays169_ren := {
  mixed := by kernel_rfl
  f169 := Tryz.func141.trans (congrArg some (by kernel_rfl))
  t0 := Tryz.underlying0
  a0 := Tryz.isAgg0
  z0 := Tryz.sizeOf0
  v0 := Tryz.zeroValue0
  t3 := Tryz.underlying3
  a3 := Tryz.isAgg3
  z3 := Tryz.sizeOf3
  v3 := Tryz.zeroValue3
  t9 := Tryz.underlying9
  a9 := Tryz.isAgg9
  z9 := Tryz.sizeOf9
  v9 := Tryz.zeroValue9
  t37 := Tryz.underlying174
  a37 := Tryz.isAgg174
  z37 := Tryz.sizeOf174
  v37 := Tryz.zeroValue174
  t70 := Tryz.underlying173
  a70 := Tryz.isAgg173
  z70 := Tryz.sizeOf173
  v70 := Tryz.zeroValue173
  t72 := Tryz.underlying176
  a72 := Tryz.isAgg176
  z72 := Tryz.sizeOf176
  v72 := Tryz.zeroValue176
  t127 := Tryz.underlying229
  a127 := Tryz.isAgg229
  z127 := Tryz.sizeOf229
  v127 := Tryz.zeroValue229 }
theorem Tryz.Builder_Extra_169 : Builder.Extra Tryz.prog Tryz.lays169_ren := {
  sizeBuilder := by kernel_rfl
  liesBuilder := by kernel_rfl
  t5 := Tryz.underlying5
  a5 := Tryz.isAgg5
  z5 := Tryz.sizeOf5
  v5 := Tryz.zeroValue5
  infoByte := by kernel_rfl
  cellsByte := by kernel_rfl
  sizeByte := by kernel_rfl
  neB5 := by decide }
open Go.RowKit in
theorem Tryz.Builder_String (B b : Nat) (l : List UInt8) (w : World) (h : Lib.IsBuilder 176 5 B b (Lib.byteCells l) w) (h0 : l ≠ []) :
    Calls Tryz.prog 141 #[.pointer (some ⟨b, 0, none⟩)] w fun e w' => e = .returned (.string ⟨l.toArray⟩) ∧ Below B w w' := Any.Builder_String Tryz.lays169 Tryz.Builder_Extra_169 B b l w h h0
end Go.Proofs
namespace Go.Proofs
open Go.Shelf
def Tryz.laysW_ren : Go.Shelf.Ren := ⟨fun | 166 => 139 | 240 => 201 | 276 => 222 | n => n, fun | 0 => 0 | 3 => 3 | 4 => 4 | 5 => 5 | 9 => 9 | 20 => 20 | 37 => 174 | 70 => 173 | 72 => 176 | 75 => 34 | 80 => 179 | 164 => 151 | n => n, fun | n => n⟩
theorem Tryz.laysW : Go.Proofs.Lays.n166 Tryz.prog Tryz.laysW_ren := {
  mixed := by kernel_rfl
  f166 := Tryz.func139.trans (congrArg some (by kernel_rfl))
  f240 := Tryz.func201.trans (congrArg some (by kernel_rfl))
  f276 := Tryz.func222.trans (congrArg some (by kernel_rfl))
  t0 := Tryz.underlying0
  a0 := Tryz.isAgg0
  z0 := Tryz.sizeOf0
  v0 := Tryz.zeroValue0
  t3 := Tryz.underlying3
  a3 := Tryz.isAgg3
  z3 := Tryz.sizeOf3
  v3 := Tryz.zeroValue3
  t4 := Tryz.underlying4
  a4 := Tryz.isAgg4
  z4 := Tryz.sizeOf4
  v4 := Tryz.zeroValue4
  t9 := Tryz.underlying9
  a9 := Tryz.isAgg9
  z9 := Tryz.sizeOf9
  v9 := Tryz.zeroValue9
  t20 := Tryz.underlying20
  a20 := Tryz.isAgg20
  z20 := Tryz.sizeOf20
  v20 := Tryz.zeroValue20
  t37 := Tryz.underlying174
  a37 := Tryz.isAgg174
  z37 := Tryz.sizeOf174
  v37 := Tryz.zeroValue174
  t70 := Tryz.underlying173
  a70 := Tryz.isAgg173
  z70 := Tryz.sizeOf173
  v70 := Tryz.zeroValue173
  t72 := Tryz.underlying176
  a72 := Tryz.isAgg176
  z72 := Tryz.sizeOf176
  v72 := Tryz.zeroValue176
  t75 := Tryz.underlying34
  a75 := Tryz.isAgg34
  z75 := Tryz.sizeOf34
  v75 := Tryz.zeroValue34
  t164 := Tryz.underlying151
  a164 := Tryz.isAgg151
  z164 := Tryz.sizeOf151
  v164 := Tryz.zeroValue151 }
theorem Tryz.extraW : Builder.Extra Tryz.prog Tryz.laysW_ren := {
  sizeBuilder := by kernel_rfl
  liesBuilder := by kernel_rfl
  t5 := Tryz.underlying5
  a5 := Tryz.isAgg5
  z5 := Tryz.sizeOf5
  v5 := Tryz.zeroValue5
  infoByte := by kernel_rfl
  cellsByte := by kernel_rfl
  sizeByte := by kernel_rfl
  neB5 := by decide }
end Go.Proofs
namespace Go.Proofs.YtjeldfipipkfiaaGreatDoor
open Go.RowKit Go.Shelf
theorem write_c (B b : Nat) (bs : List Value) (s : ByteArray) (w : World) (h : Lib.IsBuilder 176 5 B b bs w) (hlen : bs.length + s.size ≤ 140737488355328) (hBw : B ≤ w.heap.size) :
    Calls Tryz.prog 139 #[.pointer (some ⟨b, 0, none⟩), .string s] w fun e w' => e = .returned (.tuple #[.int .i64 s.size, .nilIface]) ∧ (Lib.BuilderAt 176 5 B b (.pointer (some ⟨b, 0, none⟩)) (bs ++ Lib.strCells s) w' ∧ Below B w w') :=
  Any.Builder_WriteString Tryz.laysW Tryz.extraW B b bs s w h hlen hBw
end Go.Proofs.YtjeldfipipkfiaaGreatDoor
namespace Go.Proofs.YtjeldfipipkfiaaGreatDoor
open Go.RowKit
set_option linter.unusedSimpArgs false
set_option linter.unusedVariables false
theorem small_p : smallB { data := #[112] } = true := by decide +kernel
theorem small_m : smallB { data := #[109] } = true := by decide +kernel
theorem small_f : smallB { data := #[102] } = true := by decide +kernel
theorem smallP (w : World) : Calls Tryz.prog 69 #[.string { data := #[112] }] w fun e w' => e = .returned (.bool true) ∧ Below w.heap.size w w' := small_p ▸ Small_c { data := #[112] } w (by decide)
theorem smallM (w : World) : Calls Tryz.prog 69 #[.string { data := #[109] }] w fun e w' => e = .returned (.bool true) ∧ Below w.heap.size w w' := small_m ▸ Small_c { data := #[109] } w (by decide)
theorem smallF (w : World) : Calls Tryz.prog 69 #[.string { data := #[102] }] w fun e w' => e = .returned (.bool true) ∧ Below w.heap.size w w' := small_f ▸ Small_c { data := #[102] } w (by decide)
set_option maxHeartbeats 4000000 in
theorem imp0_c (w : World) : Calls Tryz.prog 150 #[.agg #[.string { data := #[112] }, .int .i64 1, .string { data := #[109] }, .string { data := #[109] }]] w fun e w' => e = .returned (.bool true) ∧ Below w.heap.size w w' := by
  have D0 := Lib.hid (Blk.new w #[.string { data := #[112] }, .int .i64 1, .string { data := #[109] }, .string { data := #[109] }] 55)
  have A0 := Lib.hid ((Below.refl w.heap.size w).alloc (Nat.le_refl _) (.cells #[.string { data := #[112] }, .int .i64 1, .string { data := #[109] }, .string { data := #[109] }] 55))
  go_enter Tryz.func150, Tryz.ntmps150
  go_upto_region 1 with fail
  generalize w.alloc (.cells #[.string { data := #[112] }, .int .i64 1, .string { data := #[109] }, .string { data := #[109] }] 55) = W at D0 A0 ⊢
  have k0 := D0.out.cell 0
  have k1 := D0.out.cell 1
  have k2 := D0.out.cell 2
  have k3 := D0.out.cell 3
  simp at k0 k1 k2 k3
  have kl := D0.out.lt
  go_wp2_with (first
    | (have h0 := A2; go_at_call 69; refine (smallM _).mono ?_; rintro e w3 ⟨rfl, hb⟩; have A3 := Lib.hid (A2.out.trans (hb.mono A2.out.size)); have D3 := Lib.hid (D2.out.under hb D2.out.lt); clear hb; clear k0 k1 k2 k3 kl; have k0 := D3.out.cell 0; have k1 := D3.out.cell 1; have k2 := D3.out.cell 2; have k3 := D3.out.cell 3; simp at k0 k1 k2 k3; have kl := D3.out.lt)
    | (have h0 := A1; go_at_call 69; refine (smallM _).mono ?_; rintro e w2 ⟨rfl, hb⟩; have A2 := Lib.hid (A1.out.trans (hb.mono A1.out.size)); have D2 := Lib.hid (D1.out.under hb D1.out.lt); clear hb; clear k0 k1 k2 k3 kl; have k0 := D2.out.cell 0; have k1 := D2.out.cell 1; have k2 := D2.out.cell 2; have k3 := D2.out.cell 3; simp at k0 k1 k2 k3; have kl := D2.out.lt)
    | (go_at_call 69; refine (smallP _).mono ?_; rintro e w1 ⟨rfl, hb⟩; have A1 := Lib.hid (A0.out.trans (hb.mono A0.out.size)); have D1 := Lib.hid (D0.out.under hb D0.out.lt); clear hb; clear k0 k1 k2 k3 kl; have k0 := D1.out.cell 0; have k1 := D1.out.cell 1; have k2 := D1.out.cell 2; have k3 := D1.out.cell 3; simp at k0 k1 k2 k3; have kl := D1.out.lt))
  go_ret
  exact ⟨rfl, A3.out⟩
set_option maxHeartbeats 4000000 in
theorem imp1_c (w : World) : Calls Tryz.prog 149 #[.agg #[.string { data := #[112] }, .int .i64 1, .string { data := #[109] }, .string { data := #[109] }]] w fun e w' => e = .returned (.bool false) ∧ Below w.heap.size w w' := by
  have D0 := Lib.hid (Blk.new w #[.string { data := #[112] }, .int .i64 1, .string { data := #[109] }, .string { data := #[109] }] 55)
  have A0 := Lib.hid ((Below.refl w.heap.size w).alloc (Nat.le_refl _) (.cells #[.string { data := #[112] }, .int .i64 1, .string { data := #[109] }, .string { data := #[109] }] 55))
  go_enter Tryz.func149, Tryz.ntmps149
  go_upto_region 1 with fail
  generalize w.alloc (.cells #[.string { data := #[112] }, .int .i64 1, .string { data := #[109] }, .string { data := #[109] }] 55) = W at D0 A0 ⊢
  have k0 := D0.out.cell 0
  have k1 := D0.out.cell 1
  have k2 := D0.out.cell 2
  have k3 := D0.out.cell 3
  simp at k0 k1 k2 k3
  have kl := D0.out.lt
  go_wp2_with (go_at_call 150; refine (imp0_c _).mono ?_; rintro e w1 ⟨rfl, hb⟩; have A1 := Lib.hid (A0.out.trans (hb.mono A0.out.size)); clear hb)
  go_ret
  exact ⟨rfl, A1.out⟩
set_option maxHeartbeats 4000000 in
theorem idxI_c (b cap : Nat) (w : World) (h : Blk w b #[.string { data := #[112] }, .int .i64 1, .string { data := #[109] }, .string { data := #[109] }] 55) : Calls Tryz.prog 99 #[.slice (some ⟨b, 0, none⟩) 1 cap, .func (.func 149) #[] #[]] w fun e w' => e = .returned (.int .i64 (-1)) ∧ Below w.heap.size w w' := by
  have H := Lib.hid h
  clear h
  go_enter Tryz.func99, Tryz.ntmps99
  go_wp2
  go_loopw [8] (fun i w1 => ∃ k : Nat, k ≤ 1 ∧ i = .int .i64 k ∧ Below w.heap.size w w1) (fun i _ => 1 - (intOf i).toNat)
  case atStart => exact ⟨0, Nat.zero_le _, rfl, Below.refl _ _⟩
  case round =>
    rename World => wr
    obtain ⟨k, hk, rfl, hacc⟩ := hrel
    have HB := Lib.hid hacc
    clear hacc
    by_cases h0 : k = 0
    · subst h0
      have D := Lib.hid (H.out.under HB.out H.out.lt)
      have k0 := D.out.cell 0
      have k1 := D.out.cell 1
      have k2 := D.out.cell 2
      have k3 := D.out.cell 3
      simp at k0 k1 k2 k3
      have kl := D.out.lt
      go_wp2_with fail
      refine (imp1_c wr).mono ?_
      rintro e w1 ⟨rfl, hb1⟩
      have HB1 := Lib.hid (HB.out.trans (hb1.mono HB.out.size))
      clear hb1
      go_wp2_with fail
      exact ⟨⟨1, by omega, by go_num, HB1.out⟩, by simp [intOf]⟩
    · have hkI : ¬ (k : Int) < 1 := by omega
      go_wp2_with fail
      go_ret
      exact ⟨rfl, HB.out⟩
theorem conI_c (b cap : Nat) (w : World) (h : Blk w b #[.string { data := #[112] }, .int .i64 1, .string { data := #[109] }, .string { data := #[109] }] 55) : Calls Tryz.prog 49 #[.slice (some ⟨b, 0, none⟩) 1 cap, .func (.func 149) #[] #[]] w fun e w' => e = .returned (.bool false) ∧ Below w.heap.size w w' := by
  have H := Lib.hid (idxI_c b cap w h)
  clear h
  go_enter Tryz.func49, Tryz.ntmps49
  go_wp2_with fail
  refine H.out.mono ?_
  rintro e w1 ⟨rfl, hb1⟩
  go_wp2_with fail
  go_ret
  exact ⟨rfl, hb1⟩
def wT : Ty := .mk 1 { data := #[] } 0 { data := #[] } { data := #[] } [] []
theorem may_wT : mayT wT = true := by decide +kernel
theorem mayW_c (na : Option Addr) (nc : Nat) (sa : Option Addr) (sc : Nat) (w : World) (B : Nat) (h : TyC w B wT #[.int .i64 1, .string { data := #[] }, .int .i64 0, .string { data := #[] }, .string { data := #[] }, .slice na 0 nc, .slice sa 0 sc]) (hB : B ≤ w.heap.size) : Calls Tryz.prog 53 #[.agg #[.int .i64 1, .string { data := #[] }, .int .i64 0, .string { data := #[] }, .string { data := #[] }, .slice na 0 nc, .slice sa 0 sc]] w fun e w' => e = .returned (.bool true) ∧ Below w.heap.size w w' :=
  may_wT ▸ May_c wT #[.int .i64 1, .string { data := #[] }, .int .i64 0, .string { data := #[] }, .string { data := #[] }, .slice na 0 nc, .slice sa 0 sc] B w h hB
set_option maxHeartbeats 4000000 in
theorem said_c (na : Option Addr) (nc : Nat) (sa : Option Addr) (sc : Nat) (w : World) (h : TyC w w.heap.size wT #[.int .i64 1, .string { data := #[] }, .int .i64 0, .string { data := #[] }, .string { data := #[] }, .slice na 0 nc, .slice sa 0 sc]) : Calls Tryz.prog 152 #[.agg #[.int .i64 1, .string { data := #[109] }, .string { data := #[102] }, .int .i64 1, .string { data := #[] }, .int .i64 0, .string { data := #[] }, .string { data := #[] }, .slice na 0 nc, .slice sa 0 sc]] w fun e w' => e = .returned (.bool true) ∧ Below w.heap.size w w' := by
  have D0 := Lib.hid (Blk.new w #[.int .i64 1, .string { data := #[109] }, .string { data := #[102] }, .int .i64 1, .string { data := #[] }, .int .i64 0, .string { data := #[] }, .string { data := #[] }, .slice na 0 nc, .slice sa 0 sc] 138)
  have A0 := Lib.hid ((Below.refl w.heap.size w).alloc (Nat.le_refl _) (.cells #[.int .i64 1, .string { data := #[109] }, .string { data := #[102] }, .int .i64 1, .string { data := #[] }, .int .i64 0, .string { data := #[] }, .string { data := #[] }, .slice na 0 nc, .slice sa 0 sc] 138))
  have H := Lib.hid h
  clear h
  go_enter Tryz.func152, Tryz.ntmps152
  go_upto_region 1 with fail
  generalize w.alloc (.cells #[.int .i64 1, .string { data := #[109] }, .string { data := #[102] }, .int .i64 1, .string { data := #[] }, .int .i64 0, .string { data := #[] }, .string { data := #[] }, .slice na 0 nc, .slice sa 0 sc] 138) = W at D0 A0 ⊢
  have k0 := D0.out.cell 0
  have k1 := D0.out.cell 1
  have k2 := D0.out.cell 2
  have k3 := D0.out.cell 3
  have k4 := D0.out.cell 4
  have k5 := D0.out.cell 5
  have k6 := D0.out.cell 6
  have k7 := D0.out.cell 7
  have k8 := D0.out.cell 8
  have k9 := D0.out.cell 9
  simp at k0 k1 k2 k3 k4 k5 k6 k7 k8 k9
  have kl := D0.out.lt
  go_upto_region 2 with (go_at_call 69; refine (smallF _).mono ?_; rintro e w1 ⟨rfl, hb⟩; have A1 := Lib.hid (A0.out.trans (hb.mono A0.out.size)); have D1 := Lib.hid (D0.out.under hb D0.out.lt); clear hb; clear k0 k1 k2 k3 k4 k5 k6 k7 k8 k9 kl; have k0 := D1.out.cell 0; have k1 := D1.out.cell 1; have k2 := D1.out.cell 2; have k3 := D1.out.cell 3; have k4 := D1.out.cell 4; have k5 := D1.out.cell 5; have k6 := D1.out.cell 6; have k7 := D1.out.cell 7; have k8 := D1.out.cell 8; have k9 := D1.out.cell 9; simp at k0 k1 k2 k3 k4 k5 k6 k7 k8 k9; have kl := D1.out.lt)
  go_wp2_with (first
    | (have h0 := A2; go_at_call 53; refine (mayW_c na nc sa sc _ _ (H.out.under A2.out) A2.out.size).mono ?_; rintro e w3 ⟨rfl, hb⟩; have A3 := Lib.hid (A2.out.trans (hb.mono A2.out.size)); clear hb)
    | (have h0 := A1; go_at_call 69; refine (smallM _).mono ?_; rintro e w2 ⟨rfl, hb⟩; have A2 := Lib.hid (A1.out.trans (hb.mono A1.out.size)); have D2 := Lib.hid (D1.out.under hb D1.out.lt); clear hb; clear k0 k1 k2 k3 k4 k5 k6 k7 k8 k9 kl; have k0 := D2.out.cell 0; have k1 := D2.out.cell 1; have k2 := D2.out.cell 2; have k3 := D2.out.cell 3; have k4 := D2.out.cell 4; have k5 := D2.out.cell 5; have k6 := D2.out.cell 6; have k7 := D2.out.cell 7; have k8 := D2.out.cell 8; have k9 := D2.out.cell 9; simp at k0 k1 k2 k3 k4 k5 k6 k7 k8 k9; have kl := D2.out.lt))
  go_ret
  exact ⟨rfl, A3.out⟩
set_option maxHeartbeats 4000000 in
theorem said1_c (na : Option Addr) (nc : Nat) (sa : Option Addr) (sc : Nat) (w : World) (h : TyC w w.heap.size wT #[.int .i64 1, .string { data := #[] }, .int .i64 0, .string { data := #[] }, .string { data := #[] }, .slice na 0 nc, .slice sa 0 sc]) : Calls Tryz.prog 151 #[.agg #[.int .i64 1, .string { data := #[109] }, .string { data := #[102] }, .int .i64 1, .string { data := #[] }, .int .i64 0, .string { data := #[] }, .string { data := #[] }, .slice na 0 nc, .slice sa 0 sc]] w fun e w' => e = .returned (.bool false) ∧ Below w.heap.size w w' := by
  have D0 := Lib.hid (Blk.new w #[.int .i64 1, .string { data := #[109] }, .string { data := #[102] }, .int .i64 1, .string { data := #[] }, .int .i64 0, .string { data := #[] }, .string { data := #[] }, .slice na 0 nc, .slice sa 0 sc] 138)
  have A0 := Lib.hid ((Below.refl w.heap.size w).alloc (Nat.le_refl _) (.cells #[.int .i64 1, .string { data := #[109] }, .string { data := #[102] }, .int .i64 1, .string { data := #[] }, .int .i64 0, .string { data := #[] }, .string { data := #[] }, .slice na 0 nc, .slice sa 0 sc] 138))
  have H := Lib.hid h
  clear h
  go_enter Tryz.func151, Tryz.ntmps151
  go_upto_region 1 with fail
  generalize w.alloc (.cells #[.int .i64 1, .string { data := #[109] }, .string { data := #[102] }, .int .i64 1, .string { data := #[] }, .int .i64 0, .string { data := #[] }, .string { data := #[] }, .slice na 0 nc, .slice sa 0 sc] 138) = W at D0 A0 ⊢
  have k0 := D0.out.cell 0
  have k1 := D0.out.cell 1
  have k2 := D0.out.cell 2
  have k3 := D0.out.cell 3
  have k4 := D0.out.cell 4
  have k5 := D0.out.cell 5
  have k6 := D0.out.cell 6
  have k7 := D0.out.cell 7
  have k8 := D0.out.cell 8
  have k9 := D0.out.cell 9
  simp at k0 k1 k2 k3 k4 k5 k6 k7 k8 k9
  have kl := D0.out.lt
  go_wp2_with (go_at_call 152; refine (said_c na nc sa sc _ ((H.out.under A0.out).mono A0.out.size)).mono ?_; rintro e w1 ⟨rfl, hb⟩; have A1 := Lib.hid (A0.out.trans (hb.mono A0.out.size)); clear hb)
  go_ret
  exact ⟨rfl, A1.out⟩
set_option maxHeartbeats 4000000 in
theorem idxL_c (na : Option Addr) (nc : Nat) (sa : Option Addr) (sc : Nat) (b cap : Nat) (w : World) (h : Blk w b #[.int .i64 1, .string { data := #[109] }, .string { data := #[102] }, .int .i64 1, .string { data := #[] }, .int .i64 0, .string { data := #[] }, .string { data := #[] }, .slice na 0 nc, .slice sa 0 sc] 138) (ht : TyC w w.heap.size wT #[.int .i64 1, .string { data := #[] }, .int .i64 0, .string { data := #[] }, .string { data := #[] }, .slice na 0 nc, .slice sa 0 sc]) : Calls Tryz.prog 209 #[.slice (some ⟨b, 0, none⟩) 1 cap, .func (.func 151) #[] #[]] w fun e w' => e = .returned (.int .i64 (-1)) ∧ Below w.heap.size w w' := by
  have H := Lib.hid h
  have HT := Lib.hid ht
  clear h ht
  go_enter Tryz.func209, Tryz.ntmps209
  go_wp2
  go_loopw [8] (fun i w1 => ∃ k : Nat, k ≤ 1 ∧ i = .int .i64 k ∧ Below w.heap.size w w1) (fun i _ => 1 - (intOf i).toNat)
  case atStart => exact ⟨0, Nat.zero_le _, rfl, Below.refl _ _⟩
  case round =>
    rename World => wr
    obtain ⟨k, hk, rfl, hacc⟩ := hrel
    have HB := Lib.hid hacc
    clear hacc
    by_cases h0 : k = 0
    · subst h0
      have D := Lib.hid (H.out.under HB.out H.out.lt)
      have k0 := D.out.cell 0
      have k1 := D.out.cell 1
      have k2 := D.out.cell 2
      have k3 := D.out.cell 3
      have k4 := D.out.cell 4
      have k5 := D.out.cell 5
      have k6 := D.out.cell 6
      have k7 := D.out.cell 7
      have k8 := D.out.cell 8
      have k9 := D.out.cell 9
      simp at k0 k1 k2 k3 k4 k5 k6 k7 k8 k9
      have kl := D.out.lt
      go_wp2_with fail
      refine (said1_c na nc sa sc wr ((HT.out.under HB.out).mono HB.out.size)).mono ?_
      rintro e w1 ⟨rfl, hb1⟩
      have HB1 := Lib.hid (HB.out.trans (hb1.mono HB.out.size))
      clear hb1
      go_wp2_with fail
      exact ⟨⟨1, by omega, by go_num, HB1.out⟩, by simp [intOf]⟩
    · have hkI : ¬ (k : Int) < 1 := by omega
      go_wp2_with fail
      go_ret
      exact ⟨rfl, HB.out⟩
theorem conL_c (na : Option Addr) (nc : Nat) (sa : Option Addr) (sc : Nat) (b cap : Nat) (w : World) (h : Blk w b #[.int .i64 1, .string { data := #[109] }, .string { data := #[102] }, .int .i64 1, .string { data := #[] }, .int .i64 0, .string { data := #[] }, .string { data := #[] }, .slice na 0 nc, .slice sa 0 sc] 138) (ht : TyC w w.heap.size wT #[.int .i64 1, .string { data := #[] }, .int .i64 0, .string { data := #[] }, .string { data := #[] }, .slice na 0 nc, .slice sa 0 sc]) : Calls Tryz.prog 153 #[.slice (some ⟨b, 0, none⟩) 1 cap, .func (.func 151) #[] #[]] w fun e w' => e = .returned (.bool false) ∧ Below w.heap.size w w' := by
  have H := Lib.hid (idxL_c na nc sa sc b cap w h ht)
  clear h ht
  go_enter Tryz.func153, Tryz.ntmps153
  go_wp2_with fail
  refine H.out.mono ?_
  rintro e w1 ⟨rfl, hb1⟩
  go_wp2_with fail
  go_ret
  exact ⟨rfl, hb1⟩
set_option maxHeartbeats 4000000 in
theorem textW_c (na : Option Addr) (nc : Nat) (sa : Option Addr) (sc : Nat) (w : World) : Calls Tryz.prog 120 #[.agg #[.int .i64 1, .string { data := #[] }, .int .i64 0, .string { data := #[] }, .string { data := #[] }, .slice na 0 nc, .slice sa 0 sc]] w fun e w' => e = .returned (.string { data := #[73, 110, 116] }) ∧ Below w.heap.size w w' := by
  have A0 := Lib.hid ((Below.refl w.heap.size w).alloc (Nat.le_refl _) (.cells #[.int .i64 1, .string { data := #[] }, .int .i64 0, .string { data := #[] }, .string { data := #[] }, .slice na 0 nc, .slice sa 0 sc] 29))
  go_enter Tryz.func120, Tryz.ntmps120
  go_wp2_with fail
  go_ret
  exact ⟨rfl, A0.out⟩
set_option maxHeartbeats 4000000 in
theorem printW_c (na : Option Addr) (nc : Nat) (sa : Option Addr) (sc : Nat) (w : World) (h : TyC w w.heap.size wT #[.int .i64 1, .string { data := #[] }, .int .i64 0, .string { data := #[] }, .string { data := #[] }, .slice na 0 nc, .slice sa 0 sc]) : Calls Tryz.prog 64 #[.agg #[.int .i64 1, .string { data := #[] }, .int .i64 0, .string { data := #[] }, .string { data := #[] }, .slice na 0 nc, .slice sa 0 sc]] w fun e w' => e = .returned (.tuple #[.string { data := #[73, 110, 116] }, .nilIface]) ∧ Below w.heap.size w w' := by
  have D0 := Lib.hid (Blk.new w #[.int .i64 1, .string { data := #[] }, .int .i64 0, .string { data := #[] }, .string { data := #[] }, .slice na 0 nc, .slice sa 0 sc] 29)
  have A0 := Lib.hid ((Below.refl w.heap.size w).alloc (Nat.le_refl _) (.cells #[.int .i64 1, .string { data := #[] }, .int .i64 0, .string { data := #[] }, .string { data := #[] }, .slice na 0 nc, .slice sa 0 sc] 29))
  have H := Lib.hid h
  clear h
  go_enter Tryz.func64, Tryz.ntmps64
  go_upto_region 1 with fail
  generalize w.alloc (.cells #[.int .i64 1, .string { data := #[] }, .int .i64 0, .string { data := #[] }, .string { data := #[] }, .slice na 0 nc, .slice sa 0 sc] 29) = W at D0 A0 ⊢
  have k0 := D0.out.cell 0
  have k1 := D0.out.cell 1
  have k2 := D0.out.cell 2
  have k3 := D0.out.cell 3
  have k4 := D0.out.cell 4
  have k5 := D0.out.cell 5
  have k6 := D0.out.cell 6
  simp at k0 k1 k2 k3 k4 k5 k6
  have kl := D0.out.lt
  go_wp2_with (first
    | (have h0 := A1; go_at_call 120; refine (textW_c na nc sa sc _).mono ?_; rintro e w2 ⟨rfl, hb⟩; have A2 := Lib.hid (A1.out.trans (hb.mono A1.out.size)); clear hb)
    | (go_at_call 53; refine (mayW_c na nc sa sc _ _ (H.out.under A0.out) A0.out.size).mono ?_; rintro e w1 ⟨rfl, hb⟩; have A1 := Lib.hid (A0.out.trans (hb.mono A0.out.size)); have D1 := Lib.hid (D0.out.under hb D0.out.lt); clear hb; clear k0 k1 k2 k3 k4 k5 k6 kl; have k0 := D1.out.cell 0; have k1 := D1.out.cell 1; have k2 := D1.out.cell 2; have k3 := D1.out.cell 3; have k4 := D1.out.cell 4; have k5 := D1.out.cell 5; have k6 := D1.out.cell 6; simp at k0 k1 k2 k3 k4 k5 k6; have kl := D1.out.lt))
  refine bodyPost_ret (by simp [results, Tryz.results64, go_sem]; try rfl) rfl ?_
  exact ⟨rfl, A2.out⟩
end Go.Proofs.YtjeldfipipkfiaaGreatDoor
namespace Go.Proofs.YtjeldfipipkfiaaGreatDoor
open Go.RowKit
set_option linter.unusedSimpArgs false
set_option linter.unusedVariables false
set_option maxHeartbeats 4000000 in
theorem mayU_c (b1 b2 : Nat) (na : Option Addr) (nc : Nat) (sa : Option Addr) (sc : Nat) (w : World) (h1 : Blk w b1 #[.string { data := #[112] }, .int .i64 1, .string { data := #[109] }, .string { data := #[109] }] 55) (h2 : Blk w b2 #[.int .i64 1, .string { data := #[109] }, .string { data := #[102] }, .int .i64 1, .string { data := #[] }, .int .i64 0, .string { data := #[] }, .string { data := #[] }, .slice na 0 nc, .slice sa 0 sc] 138) (ht : TyC w w.heap.size wT #[.int .i64 1, .string { data := #[] }, .int .i64 0, .string { data := #[] }, .string { data := #[] }, .slice na 0 nc, .slice sa 0 sc]) : Calls Tryz.prog 91 #[.agg #[.slice (some ⟨b1, 0, none⟩) 1 1, .slice (some ⟨b2, 0, none⟩) 1 1]] w fun e w' => e = .returned (.bool true) ∧ Below w.heap.size w w' := by
  have D0 := Lib.hid (Blk.new w #[.slice (some ⟨b1, 0, none⟩) 1 1, .slice (some ⟨b2, 0, none⟩) 1 1] 82)
  have A0 := Lib.hid ((Below.refl w.heap.size w).alloc (Nat.le_refl _) (.cells #[.slice (some ⟨b1, 0, none⟩) 1 1, .slice (some ⟨b2, 0, none⟩) 1 1] 82))
  have H1 := Lib.hid h1
  have H2 := Lib.hid h2
  have HT := Lib.hid ht
  clear h1 h2 ht
  go_enter Tryz.func91, Tryz.ntmps91
  go_upto_region 1 with fail
  generalize w.alloc (.cells #[.slice (some ⟨b1, 0, none⟩) 1 1, .slice (some ⟨b2, 0, none⟩) 1 1] 82) = W at D0 A0 ⊢
  have k0 := D0.out.cell 0
  have k1 := D0.out.cell 1
  simp at k0 k1
  have kl := D0.out.lt
  go_wp2_with (first
    | (have h0 := A1; go_at_call 153; refine (conL_c na nc sa sc b2 1 _ (H2.out.under A1.out H2.out.lt) ((HT.out.under A1.out).mono A1.out.size)).mono ?_; rintro e w2 ⟨rfl, hb⟩; have A2 := Lib.hid (A1.out.trans (hb.mono A1.out.size)); clear hb)
    | (go_at_call 49; refine (conI_c b1 1 _ (H1.out.under A0.out H1.out.lt)).mono ?_; rintro e w1 ⟨rfl, hb⟩; have A1 := Lib.hid (A0.out.trans (hb.mono A0.out.size)); have D1 := Lib.hid (D0.out.under hb D0.out.lt); clear hb; clear k0 k1 kl; have k0 := D1.out.cell 0; have k1 := D1.out.cell 1; simp at k0 k1; have kl := D1.out.lt))
  go_ret
  exact ⟨rfl, A2.out⟩
theorem string_c (gb : Nat) (w : World) (h : Lib.IsBuilder 176 5 gb gb (Lib.strCells { data := #[105, 109, 112, 111, 114, 116, 32, 112, 32, 49, 32, 109, 32, 97, 115, 32, 109, 10] } ++ Lib.strCells { data := #[117, 115, 101, 32, 109, 46, 102, 32, 58, 32, 73, 110, 116, 10] }) w) : Calls Tryz.prog 141 #[.pointer (some ⟨gb, 0, none⟩)] w fun e w' => e = .returned (.string { data := #[105, 109, 112, 111, 114, 116, 32, 112, 32, 49, 32, 109, 32, 97, 115, 32, 109, 10, 117, 115, 101, 32, 109, 46, 102, 32, 58, 32, 73, 110, 116, 10] }) ∧ Below gb w w' := by
  have h2 : Lib.IsBuilder 176 5 gb gb (Lib.byteCells (({ data := #[105, 109, 112, 111, 114, 116, 32, 112, 32, 49, 32, 109, 32, 97, 115, 32, 109, 10] } : ByteArray).data.toList ++ ({ data := #[117, 115, 101, 32, 109, 46, 102, 32, 58, 32, 73, 110, 116, 10] } : ByteArray).data.toList)) w := by rw [Lib.byteCells_append]; exact h
  have := Tryz.Builder_String gb gb _ w h2 (by simp)
  have e : (⟨(({ data := #[105, 109, 112, 111, 114, 116, 32, 112, 32, 49, 32, 109, 32, 97, 115, 32, 109, 10] } : ByteArray).data.toList ++ ({ data := #[117, 115, 101, 32, 109, 46, 102, 32, 58, 32, 73, 110, 116, 10] } : ByteArray).data.toList).toArray⟩ : ByteArray) = { data := #[105, 109, 112, 111, 114, 116, 32, 112, 32, 49, 32, 109, 32, 97, 115, 32, 109, 10, 117, 115, 101, 32, 109, 46, 102, 32, 58, 32, 73, 110, 116, 10] } := by kernel_rfl
  rw [e] at this
  exact this
theorem itoa1_c (w : World) : Calls Tryz.prog 140 #[.int .i64 1] w fun e w' => e = .returned (.string { data := #[49] }) ∧ w' = w := by
  have h := Tryz.strconv_Itoa_small 1 (by decide) w
  have e : (⟨(Lib.decDigits 1).toArray⟩ : ByteArray) = { data := #[49] } := by kernel_rfl
  rw [e] at h
  exact h
theorem isb_under {T e : TypeId} {B b : Nat} {bs : List Value} {w w' : World} (h : Lib.IsBuilder T e B b bs w) (hb : Below w.heap.size w w') : Lib.IsBuilder T e B b bs w' := by
  rcases h with ⟨h1, v, h2, h3, h4⟩ | ⟨h1, v, h2, h3, h4⟩
  · exact .inl ⟨h1, v, (hb.block b (Array.getElem?_eq_some_iff.1 h2).1).trans h2, owns_under' h3 hb, h4⟩
  · exact .inr ⟨h1, v, (hb.block b (Array.getElem?_eq_some_iff.1 h2).1).trans h2, owns_under' h3 hb, h4⟩
set_option maxRecDepth 100000 in
set_option maxHeartbeats 8000000 in
theorem printU_c (b1 b2 : Nat) (na : Option Addr) (nc : Nat) (sa : Option Addr) (sc : Nat) (w : World) (h1 : Blk w b1 #[.string { data := #[112] }, .int .i64 1, .string { data := #[109] }, .string { data := #[109] }] 55) (h2 : Blk w b2 #[.int .i64 1, .string { data := #[109] }, .string { data := #[102] }, .int .i64 1, .string { data := #[] }, .int .i64 0, .string { data := #[] }, .string { data := #[] }, .slice na 0 nc, .slice sa 0 sc] 138) (ht : TyC w w.heap.size wT #[.int .i64 1, .string { data := #[] }, .int .i64 0, .string { data := #[] }, .string { data := #[] }, .slice na 0 nc, .slice sa 0 sc]) : Calls Tryz.prog 85 #[.agg #[.slice (some ⟨b1, 0, none⟩) 1 1, .slice (some ⟨b2, 0, none⟩) 1 1]] w fun e w' => e = .returned (.tuple #[.string { data := #[105, 109, 112, 111, 114, 116, 32, 112, 32, 49, 32, 109, 32, 97, 115, 32, 109, 10, 117, 115, 101, 32, 109, 46, 102, 32, 58, 32, 73, 110, 116, 10] }, .nilIface]) ∧ Below w.heap.size w w' := by
  have D0 := Lib.hid (Blk.new w #[.slice (some ⟨b1, 0, none⟩) 1 1, .slice (some ⟨b2, 0, none⟩) 1 1] 82)
  have A0 := Lib.hid ((Below.refl w.heap.size w).alloc (Nat.le_refl _) (.cells #[.slice (some ⟨b1, 0, none⟩) 1 1, .slice (some ⟨b2, 0, none⟩) 1 1] 82))
  have H1 := Lib.hid h1
  have H2 := Lib.hid h2
  have HT := Lib.hid ht
  clear h1 h2 ht
  go_enter Tryz.func85, Tryz.ntmps85
  go_upto_region 1 with fail
  generalize w.alloc (.cells #[.slice (some ⟨b1, 0, none⟩) 1 1, .slice (some ⟨b2, 0, none⟩) 1 1] 82) = W at D0 A0 ⊢
  have k0 := D0.out.cell 0
  have k1 := D0.out.cell 1
  simp at k0 k1
  have kl := D0.out.lt
  go_upto_region 3 with (go_at_call 91; refine (mayU_c b1 b2 na nc sa sc _ (H1.out.under A0.out H1.out.lt) (H2.out.under A0.out H2.out.lt) ((HT.out.under A0.out).mono A0.out.size)).mono ?_; rintro e w1 ⟨rfl, hb⟩; have A1 := Lib.hid (A0.out.trans (hb.mono A0.out.size)); have D1 := Lib.hid (D0.out.under hb D0.out.lt); clear hb k0 k1 kl)
  go_upto_region 4 with fail
  have bb : Lib.BuilderAt 176 5 w1.heap.size w1.heap.size (.pointer none) [] (w1.alloc (.cells #[.pointer none, .slice none 0 0] 176)) := ⟨Nat.le_refl _, _, heap_alloc_new w1 _, World.ownsRow_nil _ _ _ _, by simp [Value.ownBlock]⟩
  have hb2 := (Below.refl w1.heap.size w1).alloc (Nat.le_refl _) (.cells #[.pointer none, .slice none 0 0] 176)
  generalize w1.alloc (.cells #[.pointer none, .slice none 0 0] 176) = w2 at bb hb2 ⊢
  generalize hgb : w1.heap.size = gb at bb hb2 ⊢
  have HGB := Lib.hid hgb
  have BB := Lib.hid bb
  have A2 := Lib.hid (A1.out.trans (hb2.mono (by rw [← hgb]; exact A1.out.size)))
  have D2 := Lib.hid (D1.out.under hb2 (by rw [← hgb]; exact D1.out.lt))
  have hgbl : w.heap.size ≤ gb := by rw [← hgb]; exact A1.out.size
  have hgw : w.heap.size < gb := by rw [← hgb]; exact D1.out.lt
  have hgz : gb < w2.heap.size := bb.lt
  clear bb hb2 hgb
  have k0 := D2.out.cell 0
  have k1 := D2.out.cell 1
  simp at k0 k1
  have kl := D2.out.lt
  go_wp2_with fail
  go_loopw [18] (fun i wk => ∃ k : Nat, i = .int .i64 k ∧ k ≤ 1 ∧ Below gb w2 wk ∧ gb ≤ wk.heap.size ∧ Lib.IsBuilder 176 5 gb gb (if k = 0 then [] else Lib.strCells { data := #[105, 109, 112, 111, 114, 116, 32, 112, 32, 49, 32, 109, 32, 97, 115, 32, 109, 10] }) wk) (fun i _ => 1 - (intOf i).toNat)
  case atStart => exact ⟨0, rfl, Nat.zero_le _, Below.refl _ _, Nat.le_of_lt hgz, .inl BB.out⟩
  case round =>
    rename World => wk
    obtain ⟨k, rfl, hk, hbk, hzk, hbl⟩ := hrel
    have BK := Lib.hid hbk
    have BL := Lib.hid hbl
    have AK := Lib.hid (A2.out.trans (hbk.mono hgbl))
    have DK := Lib.hid (D2.out.under hbk hgw)
    clear hbk hbl k0 k1 kl
    have k0 := DK.out.cell 0
    have k1 := DK.out.cell 1
    simp at k0 k1
    have kl := DK.out.lt
    by_cases hk0 : k = 0
    · subst hk0
      have I1 := Lib.hid (H1.out.under AK.out H1.out.lt)
      have i0 := I1.out.cell 0
      have i1 := I1.out.cell 1
      have i2 := I1.out.cell 2
      have i3 := I1.out.cell 3
      simp at i0 i1 i2 i3
      have il := I1.out.lt
      go_upto_region 7 with fail
      have b6 := Blk.new wk #[.string { data := #[112] }, .int .i64 1, .string { data := #[109] }, .string { data := #[109] }] 55
      have hb6 := (Below.refl wk.heap.size wk).alloc (Nat.le_refl _) (.cells #[.string { data := #[112] }, .int .i64 1, .string { data := #[109] }, .string { data := #[109] }] 55)
      have bl6 := isb_under BL.out hb6
      generalize wk.alloc (.cells #[.string { data := #[112] }, .int .i64 1, .string { data := #[109] }, .string { data := #[109] }] 55) = w6 at b6 hb6 bl6 ⊢
      generalize wk.heap.size = g6 at b6 hb6 hzk ⊢
      have B6 := Lib.hid b6
      have BL6 := Lib.hid bl6
      have BK6 := Lib.hid (BK.out.trans (hb6.mono hzk))
      have hz6 : gb ≤ w6.heap.size := Nat.le_trans hzk (Nat.le_of_lt b6.lt)
      clear b6 bl6 hb6 i0 i1 i2 i3 il
      refine wp_region_until [(17, fun w' => Blk w' g6 #[.string { data := #[112] }, .int .i64 1, .string { data := #[109] }, .string { data := #[109] }] 55), (6, fun w' => Blk w' g6 #[.string { data := #[112] }, .int .i64 1, .string { data := #[109] }, .string { data := #[109] }] 55)] (by kernel_rfl) (Until.cons (fun _ => B6.out.drew) (Until.cons (fun _ => B6.out.drew) Until.nil)) (fun hU => ?_)
      refine AnyU.take (i := 0) (v := ?_) rfl (by kernel_rfl) (by kernel_rfl) (by kernel_rfl) (fun _ _ _ h => h) (by kernel_rfl) (by assumption) (by rfl) ?_ (fun hV => ?_)
      rotate_left 1
      · (intro wq; go_simp; try with_reducible rfl)
      clear hU; have hU := hV; clear hV
      try simp only [Act.put, aput]
      refine AnyU.loadc (i := 1) (d := 17) [2, 3, 7, 8, 11, 12, 15, 16, 17] (Si := fun w' => Blk w' g6 #[.string { data := #[112] }, .int .i64 1, .string { data := #[109] }, .string { data := #[109] }] 55) (v := ?_) rfl (by kernel_rfl) (by kernel_rfl) (by kernel_rfl) (fun _ _ _ h => h) (by kernel_rfl) (by assumption) (by kernel_rfl) rfl (by simp) (by rfl) ?_ (fun hV => ?_)
      rotate_left 1
      · (intro wq hq; have u0 := hq.cell 0; have u1 := hq.cell 1; have u2 := hq.cell 2; have u3 := hq.cell 3; simp at u0 u1 u2 u3; go_simp; try with_reducible rfl)
      clear hU; have hU := hV; clear hV
      try simp only [Act.put, aput]
      refine AnyU.take (i := 4) (v := ?_) rfl (by kernel_rfl) (by kernel_rfl) (by kernel_rfl) (fun _ _ _ h => h) (by kernel_rfl) (by assumption) (by rfl) ?_ (fun hV => ?_)
      rotate_left 1
      · (intro wq; go_simp; try with_reducible rfl)
      clear hU; have hU := hV; clear hV
      try simp only [Act.put, aput]
      refine AnyU.loadc (i := 5) (d := 6) [6] (Si := fun w' => Blk w' g6 #[.string { data := #[112] }, .int .i64 1, .string { data := #[109] }, .string { data := #[109] }] 55) (v := ?_) rfl (by kernel_rfl) (by kernel_rfl) (by kernel_rfl) (fun _ _ _ h => h) (by kernel_rfl) (by assumption) (by kernel_rfl) rfl (by simp) (by rfl) ?_ (fun hV => ?_)
      rotate_left 1
      · (intro wq hq; have u0 := hq.cell 0; have u1 := hq.cell 1; have u2 := hq.cell 2; have u3 := hq.cell 3; simp at u0 u1 u2 u3; go_simp; try with_reducible rfl)
      clear hU; have hU := hV; clear hV
      try simp only [Act.put, aput]
      refine AnyU.take (i := 9) (v := ?_) rfl (by kernel_rfl) (by kernel_rfl) (by kernel_rfl) (fun _ _ _ h => h) (by kernel_rfl) (by assumption) (by rfl) ?_ (fun hV => ?_)
      rotate_left 1
      · (intro wq; go_simp; try with_reducible rfl)
      clear hU; have hU := hV; clear hV
      try simp only [Act.put, aput]
      refine AnyU.loadc (i := 10) (d := 17) [11, 12, 15, 16, 17] (Si := fun w' => Blk w' g6 #[.string { data := #[112] }, .int .i64 1, .string { data := #[109] }, .string { data := #[109] }] 55) (v := ?_) rfl (by kernel_rfl) (by kernel_rfl) (by kernel_rfl) (fun _ _ _ h => h) (by kernel_rfl) (by assumption) (by kernel_rfl) rfl (by simp) (by rfl) ?_ (fun hV => ?_)
      rotate_left 1
      · (intro wq hq; have u0 := hq.cell 0; have u1 := hq.cell 1; have u2 := hq.cell 2; have u3 := hq.cell 3; simp at u0 u1 u2 u3; go_simp; try with_reducible rfl)
      clear hU; have hU := hV; clear hV
      try simp only [Act.put, aput]
      refine AnyU.take (i := 13) (v := ?_) rfl (by kernel_rfl) (by kernel_rfl) (by kernel_rfl) (fun _ _ _ h => h) (by kernel_rfl) (by assumption) (by rfl) ?_ (fun hV => ?_)
      rotate_left 1
      · (intro wq; go_simp; try with_reducible rfl)
      clear hU; have hU := hV; clear hV
      try simp only [Act.put, aput]
      refine AnyU.loadc (i := 14) (d := 17) [15, 16, 17] (Si := fun w' => Blk w' g6 #[.string { data := #[112] }, .int .i64 1, .string { data := #[109] }, .string { data := #[109] }] 55) (v := ?_) rfl (by kernel_rfl) (by kernel_rfl) (by kernel_rfl) (fun _ _ _ h => h) (by kernel_rfl) (by assumption) (by kernel_rfl) rfl (by simp) (by rfl) ?_ (fun hV => ?_)
      rotate_left 1
      · (intro wq hq; have u0 := hq.cell 0; have u1 := hq.cell 1; have u2 := hq.cell 2; have u3 := hq.cell 3; simp at u0 u1 u2 u3; go_simp; try with_reducible rfl)
      clear hU; have hU := hV; clear hV
      try simp only [Act.put, aput]
      refine AnyU.take (i := 2) (v := ?_) rfl (by kernel_rfl) (by kernel_rfl) (by kernel_rfl) (fun _ _ _ h => h) (by kernel_rfl) (by assumption) (by rfl) ?_ (fun hV => ?_)
      rotate_left 1
      · (intro wq; go_simp; try with_reducible rfl)
      clear hU; have hU := hV; clear hV
      try simp only [Act.put, aput]
      refine AnyU.take (i := 3) (v := ?_) rfl (by kernel_rfl) (by kernel_rfl) (by kernel_rfl) (fun _ _ _ h => h) (by kernel_rfl) (by assumption) (by rfl) ?_ (fun hV => ?_)
      rotate_left 1
      · (intro wq; go_simp; try with_reducible rfl)
      clear hU; have hU := hV; clear hV
      try simp only [Act.put, aput]
      refine AnyU.ready1 (i := 6) (by kernel_rfl) (AnyU.one rfl fun K hK => ?_)
      go_simp
      go_at_call 140
      refine (itoa1_c _).mono ?_
      rintro e wi ⟨rfl, hwi⟩
      obtain rfl := hwi.symm
      refine hK.out _ _ (Until.cons (fun _ => B6.out.drew) (Until.cons (fun h => absurd h (by decide)) Until.nil)) (fun hV => ?_)
      clear hK K
      clear hU; have hU := hV; clear hV
      try simp only [Act.put, aput]
      refine AnyU.take (i := 7) (v := ?_) rfl (by kernel_rfl) (by kernel_rfl) (by kernel_rfl) (fun _ _ _ h => h) (by kernel_rfl) (by assumption) (by rfl) ?_ (fun hV => ?_)
      rotate_left 1
      · (intro wq; go_simp; try with_reducible rfl)
      clear hU; have hU := hV; clear hV
      try simp only [Act.put, aput]
      refine AnyU.take (i := 8) (v := ?_) rfl (by kernel_rfl) (by kernel_rfl) (by kernel_rfl) (fun _ _ _ h => h) (by kernel_rfl) (by assumption) (by rfl) ?_ (fun hV => ?_)
      rotate_left 1
      · (intro wq; go_simp; try with_reducible rfl)
      clear hU; have hU := hV; clear hV
      try simp only [Act.put, aput]
      refine AnyU.take (i := 11) (v := ?_) rfl (by kernel_rfl) (by kernel_rfl) (by kernel_rfl) (fun _ _ _ h => h) (by kernel_rfl) (by assumption) (by rfl) ?_ (fun hV => ?_)
      rotate_left 1
      · (intro wq; go_simp; try with_reducible rfl)
      clear hU; have hU := hV; clear hV
      try simp only [Act.put, aput]
      refine AnyU.take (i := 12) (v := ?_) rfl (by kernel_rfl) (by kernel_rfl) (by kernel_rfl) (fun _ _ _ h => h) (by kernel_rfl) (by assumption) (by rfl) ?_ (fun hV => ?_)
      rotate_left 1
      · (intro wq; go_simp; try with_reducible rfl)
      clear hU; have hU := hV; clear hV
      try simp only [Act.put, aput]
      refine AnyU.take (i := 15) (v := ?_) rfl (by kernel_rfl) (by kernel_rfl) (by kernel_rfl) (fun _ _ _ h => h) (by kernel_rfl) (by assumption) (by rfl) ?_ (fun hV => ?_)
      rotate_left 1
      · (intro wq; go_simp; try with_reducible rfl)
      clear hU; have hU := hV; clear hV
      try simp only [Act.put, aput]
      refine AnyU.take (i := 16) (v := ?_) rfl (by kernel_rfl) (by kernel_rfl) (by kernel_rfl) (fun _ _ _ h => h) (by kernel_rfl) (by assumption) (by rfl) ?_ (fun hV => ?_)
      rotate_left 1
      · (intro wq; go_simp; try with_reducible rfl)
      clear hU; have hU := hV; clear hV
      try simp only [Act.put, aput]
      refine AnyU.ready1 (i := 17) (by kernel_rfl) (AnyU.one rfl fun K hK => ?_)
      go_simp
      have e1 : ({ data := #[105, 109, 112, 111, 114, 116, 32] } : ByteArray) ++ { data := #[112] } ++ { data := #[32] } ++ { data := #[49] } ++ { data := #[32] } ++ { data := #[109] } ++ { data := #[32, 97, 115, 32] } ++ { data := #[109] } ++ { data := #[10] } = ({ data := #[105, 109, 112, 111, 114, 116, 32, 112, 32, 49, 32, 109, 32, 97, 115, 32, 109, 10] } : ByteArray) := by kernel_rfl
      rw [e1]
      go_at_call 139
      have bl0 : Lib.IsBuilder 176 5 gb gb [] (World.drew w6) := BL6.out
      refine (write_c gb gb [] { data := #[105, 109, 112, 111, 114, 116, 32, 112, 32, 49, 32, 109, 32, 97, 115, 32, 109, 10] } _ bl0 (by decide) hz6).mono ?_
      rintro e ww ⟨rfl, hbl, hbw⟩
      have hbw : Below gb w6 ww := ((Below.refl gb w6).drew).trans hbw
      have BW := Lib.hid (BK6.out.trans hbw)
      have BLW := Lib.hid hbl
      have hzw : gb ≤ ww.heap.size := Nat.le_trans hz6 hbw.size
      clear hbl hbw e1 bl0
      refine hK.out _ _ (Until.off (by kernel_rfl)) (fun hV => ?_)
      clear hK K
      clear hU; have hU := hV; clear hV
      try simp only [Act.put, aput]
      refine AnyU.done (by kernel_rfl) ?_
      clear hU
      go_wp2_with fail
      exact ⟨⟨1, by go_num, by omega, BW.out, hzw, .inr BLW.out⟩, by simp [intOf]⟩
    · have hkI : ¬ (k : Int) < 1 := by omega
      have bl1 : Lib.IsBuilder 176 5 gb gb (Lib.strCells { data := #[105, 109, 112, 111, 114, 116, 32, 112, 32, 49, 32, 109, 32, 97, 115, 32, 109, 10] }) wk := by have := BL.out; rw [if_neg hk0] at this; exact this
      have BL1 := Lib.hid bl1
      clear bl1
      go_wp2_with fail
      clear k0 k1 kl
      go_loopw [44] (fun i wk => ∃ k : Nat, i = .int .i64 k ∧ k ≤ 1 ∧ Below gb w2 wk ∧ gb ≤ wk.heap.size ∧ Lib.IsBuilder 176 5 gb gb (if k = 0 then Lib.strCells { data := #[105, 109, 112, 111, 114, 116, 32, 112, 32, 49, 32, 109, 32, 97, 115, 32, 109, 10] } else Lib.strCells { data := #[105, 109, 112, 111, 114, 116, 32, 112, 32, 49, 32, 109, 32, 97, 115, 32, 109, 10] } ++ Lib.strCells { data := #[117, 115, 101, 32, 109, 46, 102, 32, 58, 32, 73, 110, 116, 10] }) wk) (fun i _ => 1 - (intOf i).toNat)
      case atStart => exact ⟨0, rfl, Nat.zero_le _, BK.out, hzk, BL1.out⟩
      case round =>
        rename World => wm
        obtain ⟨q, rfl, hq, hbm, hzm, hblm⟩ := hrel
        have BM := Lib.hid hbm
        have BLM := Lib.hid hblm
        have AM := Lib.hid (A2.out.trans (hbm.mono hgbl))
        have DM := Lib.hid (D2.out.under hbm hgw)
        clear hbm hblm
        have k0 := DM.out.cell 0
        have k1 := DM.out.cell 1
        simp at k0 k1
        have kl := DM.out.lt
        by_cases hq0 : q = 0
        · subst hq0
          have J1 := Lib.hid (H2.out.under AM.out H2.out.lt)
          have j0 := J1.out.cell 0
          have j1 := J1.out.cell 1
          have j2 := J1.out.cell 2
          have j3 := J1.out.cell 3
          have j4 := J1.out.cell 4
          have j5 := J1.out.cell 5
          have j6 := J1.out.cell 6
          have j7 := J1.out.cell 7
          have j8 := J1.out.cell 8
          have j9 := J1.out.cell 9
          simp at j0 j1 j2 j3 j4 j5 j6 j7 j8 j9
          have jl := J1.out.lt
          go_upto_region 12 with fail
          have b8 := Blk.new wm #[.int .i64 1, .string { data := #[109] }, .string { data := #[102] }, .int .i64 1, .string { data := #[] }, .int .i64 0, .string { data := #[] }, .string { data := #[] }, .slice na 0 nc, .slice sa 0 sc] 138
          have hb8 := (Below.refl wm.heap.size wm).alloc (Nat.le_refl _) (.cells #[.int .i64 1, .string { data := #[109] }, .string { data := #[102] }, .int .i64 1, .string { data := #[] }, .int .i64 0, .string { data := #[] }, .string { data := #[] }, .slice na 0 nc, .slice sa 0 sc] 138)
          have bl8 := isb_under BLM.out hb8
          have ty8 := (HT.out.under (AM.out.trans (hb8.mono AM.out.size))).mono (AM.out.trans (hb8.mono AM.out.size)).size
          generalize wm.alloc (.cells #[.int .i64 1, .string { data := #[109] }, .string { data := #[102] }, .int .i64 1, .string { data := #[] }, .int .i64 0, .string { data := #[] }, .string { data := #[] }, .slice na 0 nc, .slice sa 0 sc] 138) = w8 at b8 hb8 bl8 ty8 ⊢
          generalize wm.heap.size = g8 at b8 hb8 hzm ⊢
          have B8 := Lib.hid b8
          have BL8 := Lib.hid bl8
          have BM8 := Lib.hid (BM.out.trans (hb8.mono hzm))
          have TY8 := Lib.hid ty8
          have hz8 : gb ≤ w8.heap.size := Nat.le_trans hzm (Nat.le_of_lt b8.lt)
          clear b8 bl8 hb8 ty8 j0 j1 j2 j3 j4 j5 j6 j7 j8 j9 jl
          have j0 := B8.out.cell 0
          have j1 := B8.out.cell 1
          have j2 := B8.out.cell 2
          have j3 := B8.out.cell 3
          have j4 := B8.out.cell 4
          have j5 := B8.out.cell 5
          have j6 := B8.out.cell 6
          have j7 := B8.out.cell 7
          have j8 := B8.out.cell 8
          have j9 := B8.out.cell 9
          simp at j0 j1 j2 j3 j4 j5 j6 j7 j8 j9
          have jl := B8.out.lt
          go_upto_region 13 with (go_at_call 64; refine (printW_c na nc sa sc _ TY8.out).mono ?_; rintro e w9 ⟨rfl, hb⟩; have B9 := Lib.hid (B8.out.under hb B8.out.lt); have BL9 := Lib.hid (isb_under BL8.out hb); have BM9 := Lib.hid (BM8.out.trans (hb.mono hz8)); have hz9 : gb ≤ w9.heap.size := Nat.le_trans hz8 hb.size; clear hb j0 j1 j2 j3 j4 j5 j6 j7 j8 j9 jl)
          have j0 := B9.out.cell 0
          have j1 := B9.out.cell 1
          have j2 := B9.out.cell 2
          have j3 := B9.out.cell 3
          have j4 := B9.out.cell 4
          have j5 := B9.out.cell 5
          have j6 := B9.out.cell 6
          have j7 := B9.out.cell 7
          have j8 := B9.out.cell 8
          have j9 := B9.out.cell 9
          simp at j0 j1 j2 j3 j4 j5 j6 j7 j8 j9
          have jl := B9.out.lt
          go_wp2_with (go_at_call 139; refine (write_c gb gb (Lib.strCells { data := #[105, 109, 112, 111, 114, 116, 32, 112, 32, 49, 32, 109, 32, 97, 115, 32, 109, 10] }) { data := #[117, 115, 101, 32, 109, 46, 102, 32, 58, 32, 73, 110, 116, 10] } _ BL9.out (by decide) hz9).mono ?_; rintro e ww ⟨rfl, hbl, hbw⟩; have BW := Lib.hid (BM9.out.trans hbw); have BLW := Lib.hid hbl; have hzw : gb ≤ ww.heap.size := Nat.le_trans hz9 hbw.size; clear hbl hbw j0 j1 j2 j3 j4 j5 j6 j7 j8 j9 jl)
          exact ⟨⟨1, by go_num, by omega, BW.out, hzw, .inr BLW.out⟩, by simp [intOf]⟩
        · have hqI : ¬ (q : Int) < 1 := by omega
          have bl2 : Lib.IsBuilder 176 5 gb gb (Lib.strCells { data := #[105, 109, 112, 111, 114, 116, 32, 112, 32, 49, 32, 109, 32, 97, 115, 32, 109, 10] } ++ Lib.strCells { data := #[117, 115, 101, 32, 109, 46, 102, 32, 58, 32, 73, 110, 116, 10] }) wm := by have := BLM.out; rw [if_neg hq0] at this; exact this
          have BL2 := Lib.hid bl2
          clear bl2
          go_wp2_with (go_at_call 141; refine (string_c gb _ BL2.out).mono ?_; rintro e wf ⟨rfl, hbf⟩; have AF := Lib.hid (AM.out.trans (hbf.mono hgbl)); clear hbf)
          refine bodyPost_ret (by simp [results, Tryz.results85, go_sem]; try rfl) rfl ?_
          exact ⟨rfl, AF.out⟩
end Go.Proofs.YtjeldfipipkfiaaGreatDoor
namespace Go.Proofs.YtjeldfipipkfiaaGreatDoor
open Go.RowKit
set_option linter.unusedSimpArgs false
set_option linter.unusedVariables false
def wX : If := ⟨{ data := #[112] }, 1, { data := #[109] }, [], [bF]⟩
def wC : Chg := ⟨1, { data := #[109] }, { data := #[102] }, false⟩
theorem fair_a0 : fairB bA [] = true := by decide +kernel
theorem fair_aa : fairB bA bA = true := by decide +kernel
theorem may_a : mayP bA = true := by decide +kernel
theorem un_m0 : unionN [{ data := #[109] }] [] = [{ data := #[109] }] := rise_eq (unionN_rise _ _) (by decide +kernel) fun s => by rw [unionN_mem]; simp
theorem un_f0 : unionN [{ data := #[102] }] [] = [{ data := #[102] }] := rise_eq (unionN_rise _ _) (by decide +kernel) fun s => by rw [unionN_mem]; simp
theorem chg_a0 : chgF bA [] = [wC] := by
  have e1 : unionN (bA.map If.mod) (([] : List If).map If.mod) = [{ data := #[109] }] := un_m0
  have ea : (firstIface bA { data := #[109] }).getD zIf = wX := by kernel_rfl
  have eb : (firstIface [] { data := #[109] }).getD zIf = zIf := rfl
  have ef : oneF { data := #[109] } [bF] [] false { data := #[102] } = [wC] := by kernel_rfl
  rw [chgF, e1, List.flatMap_cons, List.flatMap_nil, List.append_nil, modF, ea, eb, rowsF, rowsF]
  show (unionN ([] : List ByteArray) []).flatMap _ ++ (unionN [bF.name] []).flatMap (oneF { data := #[109] } [bF] [] false) = _
  rw [un_0, show unionN [bF.name] [] = [{ data := #[102] }] from un_f0]
  simp only [List.flatMap_nil, List.nil_append, List.flatMap_cons, List.append_nil]
  exact ef
theorem chg_aa : chgF bA bA = [] := of_one.1 (bump_self may_a)
theorem big_a0 : bigC (chgF bA []) = some wC := by rw [chg_a0]; rfl
theorem big_aa : bigC (chgF bA bA) = none := by rw [chg_aa]; rfl
theorem first_a : firstIface bA wC.mod = some wX := by kernel_rfl
theorem first_n : firstNamed (selF wX wC.ofType) wC.name = some bF := by kernel_rfl
theorem plain_f : PlainB bF.ty = true := by decide +kernel
set_option maxRecDepth 100000 in
set_option maxHeartbeats 8000000 in
theorem upW_c (w : World) : Calls Tryz.prog 41 #[] w fun e w' => e = .returned (.bool true) ∧ Below w.heap.size w w' := by
  go_enter Tryz.func41, Tryz.ntmps41
  go_upto_region 2 with fail
  obtain ⟨b1, b2, hz, hb⟩ := twoW w #[.string { data := #[102] }, .int .i64 1, .string { data := #[] }, .int .i64 0, .string { data := #[] }, .string { data := #[] }, .slice none 0 0, .slice none 0 0] #[.string { data := #[112] }, .int .i64 1, .string { data := #[109] }, .slice none 0 0, .slice (some ⟨w.heap.size, 0, none⟩) 1 1] 62 51
  generalize ((w.alloc (.cells #[.string { data := #[102] }, .int .i64 1, .string { data := #[] }, .int .i64 0, .string { data := #[] }, .string { data := #[] }, .slice none 0 0, .slice none 0 0] 62)).alloc (.cells #[.string { data := #[112] }, .int .i64 1, .string { data := #[109] }, .slice none 0 0, .slice (some ⟨w.heap.size, 0, none⟩) 1 1] 51)) = W at b1 b2 hz hb ⊢
  have hA : IfsAt W W.heap.size (some ⟨w.heap.size + 1, 0, none⟩) bA := row_if (x := wX) (ta := none) (tc := 0) (vc := 1) b2 (by omega) ⟨⟨by decide, by decide, by decide, by decide, by decide⟩, none, 0, _, 1, rfl, NmsAt.nil _ _ _, rows_f b1 (by omega), Nat.le_refl _, Nat.le_refl _⟩
  have HA := Lib.hid hA
  have B0 := Lib.hid hb
  have k1 := fun V h1 h2 hB => brkYes_c (some ⟨w.heap.size + 1, 0, none⟩) none 1 0 W.heap.size bA [] wC wX bF V h1 h2 hB (by decide) (by decide) fair_a0 few_a rfl big_a0 first_a first_n plain_f
  have k2 := fun V h1 h2 hB => brkNone_c (some ⟨w.heap.size + 1, 0, none⟩) (some ⟨w.heap.size + 1, 0, none⟩) 1 1 W.heap.size bA bA V h1 h2 hB (by decide) (by decide) fair_aa few_a few_a big_aa
  change ∀ V, _ → _ → _ → Calls _ _ #[.slice _ 1 _, .slice _ 0 _] V _ at k1
  change ∀ V, _ → _ → _ → Calls _ _ #[.slice _ 1 _, .slice _ 1 _] V _ at k2
  have K1 := Lib.hid k1
  have K2 := Lib.hid k2
  clear hA hb b1 b2 hz k1 k2
  go_upto_region 3 with (go_at_call 43; refine (K1.out _ HA.out (IfsAt.nil _ _ _) (Nat.le_refl _)).mono ?_; rintro e w1 ⟨⟨v, rfl, hu⟩, hb⟩; obtain ⟨i1, i2, na, nc, sa, sc, rfl, hi1, hi2, hty⟩ := hu; have I1 := Lib.hid hi1; have I2 := Lib.hid hi2; have TY := Lib.hid hty; have B1 := Lib.hid hb; clear hi1 hi2 hty hb)
  have d2 := Blk.new w1 #[.slice (some ⟨i1, 0, none⟩) 1 1, .slice (some ⟨i2, 0, none⟩) 1 1] 82
  have hb2 := (Below.refl w1.heap.size w1).alloc (Nat.le_refl _) (.cells #[.slice (some ⟨i1, 0, none⟩) 1 1, .slice (some ⟨i2, 0, none⟩) 1 1] 82)
  generalize w1.alloc (.cells #[.slice (some ⟨i1, 0, none⟩) 1 1, .slice (some ⟨i2, 0, none⟩) 1 1] 82) = w2 at d2 hb2 ⊢
  have B2 := Lib.hid (B1.out.trans (hb2.mono B1.out.size))
  have HP := Lib.hid (printU_c i1 i2 na nc sa sc w2 (I1.out.under hb2 I1.out.lt) (I2.out.under hb2 I2.out.lt) ((TY.out.under hb2).mono hb2.size))
  have p0 := d2.cell 0
  have p1 := d2.cell 1
  simp at p0 p1
  have pl := d2.lt
  clear d2 hb2
  go_upto_region 4 with (go_at_call 85; refine HP.out.mono ?_; rintro e w3 ⟨rfl, hb⟩; have B3 := Lib.hid (B2.out.trans (hb.mono B2.out.size)); clear hb p0 p1 pl)
  go_upto_region 5 with (go_at_call 43; refine (K2.out _ (HA.out.under B3.out) (HA.out.under B3.out) B3.out.size).mono ?_; rintro e w4 ⟨rfl, hb⟩; have B4 := Lib.hid (B3.out.trans (hb.mono B3.out.size)); clear hb)
  go_wp2_with fail
  go_ret
  exact ⟨rfl, (B0.out.trans (B4.out.mono B0.out.size)).alloc (Nat.le_trans B0.out.size B4.out.size) _⟩
end Go.Proofs.YtjeldfipipkfiaaGreatDoor
