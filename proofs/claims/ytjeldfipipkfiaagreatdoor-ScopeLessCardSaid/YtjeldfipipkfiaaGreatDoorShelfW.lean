/- slices.Sort and slices.Compact at []string in this seat's numbers; slices.Grow at rows of interfaces and of named types, laid by hand. -/
import Derived.Test.YtjeldfipipkfiaaGreatDoorShelf
import Derived.Shelf.Spec.SlicesGrow
import Derived.Sort.OwnSorted
import Derived.Lib.OwnBridge
namespace Go.Proofs
open Go.Shelf
def Tryz.laysGrowNamed_ren : Go.Shelf.Ren := ⟨fun | 4 => 239 | n => n, fun | 22 => 49 | 25 => 62 | 3 => 3 | 4 => 4 | 9 => 9 | 20 => 20 | 0 => 0 | n => n, fun | n => n⟩
theorem Tryz.laysGrowNamed : Go.Proofs.Lays8.n4 Tryz.prog Tryz.laysGrowNamed_ren := {
  mixed := by kernel_rfl
  f4 := ⟨Tryz.f239.name, by decide, Tryz.func239.trans (congrArg some (by kernel_rfl))⟩
  t0 := Tryz.underlying0
  a0 := Tryz.isAgg0
  z0 := Tryz.sizeOf0
  v0 := Tryz.zeroValue0
  t3 := Tryz.underlying3
  a3 := Tryz.isAgg3
  z3 := Tryz.sizeOf3
  v3 := Tryz.zeroValue3
  t4 := Tryz.underlying4
  a4 := Tryz.isAgg4
  z4 := Tryz.sizeOf4
  v4 := Tryz.zeroValue4
  t9 := Tryz.underlying9
  a9 := Tryz.isAgg9
  z9 := Tryz.sizeOf9
  v9 := Tryz.zeroValue9
  t20 := Tryz.underlying20
  a20 := Tryz.isAgg20
  z20 := Tryz.sizeOf20
  v20 := Tryz.zeroValue20
  t22 := Tryz.underlying49
  a22 := Tryz.isAgg49
  z22 := Tryz.sizeOf49
  v22 := Tryz.zeroValue49 }
def Tryz.laysGrowIface_ren : Go.Shelf.Ren := ⟨fun | 4 => 224 | n => n, fun | 22 => 47 | 25 => 51 | 3 => 3 | 4 => 4 | 9 => 9 | 20 => 20 | 0 => 0 | n => n, fun | n => n⟩
theorem Tryz.laysGrowIface : Go.Proofs.Lays8.n4 Tryz.prog Tryz.laysGrowIface_ren := {
  mixed := by kernel_rfl
  f4 := ⟨Tryz.f224.name, by decide, Tryz.func224.trans (congrArg some (by kernel_rfl))⟩
  t0 := Tryz.underlying0
  a0 := Tryz.isAgg0
  z0 := Tryz.sizeOf0
  v0 := Tryz.zeroValue0
  t3 := Tryz.underlying3
  a3 := Tryz.isAgg3
  z3 := Tryz.sizeOf3
  v3 := Tryz.zeroValue3
  t4 := Tryz.underlying4
  a4 := Tryz.isAgg4
  z4 := Tryz.sizeOf4
  v4 := Tryz.zeroValue4
  t9 := Tryz.underlying9
  a9 := Tryz.isAgg9
  z9 := Tryz.sizeOf9
  v9 := Tryz.zeroValue9
  t20 := Tryz.underlying20
  a20 := Tryz.isAgg20
  z20 := Tryz.sizeOf20
  v20 := Tryz.zeroValue20
  t22 := Tryz.underlying47
  a22 := Tryz.isAgg47
  z22 := Tryz.sizeOf47
  v22 := Tryz.zeroValue47 }
end Go.Proofs
namespace Go.Proofs.YtjeldfipipkfiaaGreatDoor
open Go.RowKit Go.Shelf Go.Sort
theorem sort_c (blk off cap : Nat) (ss : List (List UInt8)) (w : World) (hH : Holds encStr w blk off ss.toArray) (hblk : blk < w.heap.size) (hsz : ss.length < 4611686018427387904) :
    Calls Tryz.prog 55 #[.slice (some ⟨blk, off, none⟩) ss.length cap] w fun e w' => e = .returned (.tuple #[]) ∧ ∃ n os, w' = grow (putRow encStr (Sort.ahead w n) blk off (ss.mergeSort fun x y => decide (x ≤ y)).toArray) os :=
  Any.slices_Sort_string Tryz.lays190 blk off cap ss w hH hblk hsz
theorem sort0_c (p : Option Addr) (cap : Nat) (w : World) : Calls Tryz.prog 55 #[.slice p 0 cap] w fun e w' => e = .returned (.tuple #[]) ∧ w' = w := Any.slices_Sort_string_none Tryz.lays190 p cap w
theorem comp_c (blk off cap : Nat) (zs : List (List UInt8)) (w : World) (hH : Holds encStr w blk off zs.toArray) (hsz : zs.length ≤ 9223372036854775807) (hcap : zs.length ≤ cap) :
    Calls Tryz.prog 204 #[.slice (some ⟨blk, off, none⟩) zs.length cap] w fun e w' => e = .returned (.slice (some ⟨blk, off, none⟩) (Lib.compact zs).length cap) ∧ ∃ q, w' = putRow encStr (Sort.ahead w q) blk off (Lib.compact zs ++ List.replicate (zs.length - (Lib.compact zs).length) []).toArray :=
  Any.slices_Compact_string Tryz.lays194 blk off cap zs w hH hsz hcap
theorem comp0_c (p : Option Addr) (cap : Nat) (w : World) : Calls Tryz.prog 204 #[.slice p 0 cap] w fun e w' => e = .returned (.slice p 0 cap) ∧ w' = w := Any.slices_Compact_string_empty Tryz.lays194 p cap w
theorem growRoomNamed (base : Option Addr) (l c n : Nat) (w : World) (hlc : l ≤ c) (hc63 : c ≤ 9223372036854775807) (hn63 : n ≤ 9223372036854775807) (hroom : l + n ≤ c) :
    Calls Tryz.prog 239 #[.slice base l c, .int .i64 n] w fun e w' => e = .returned (.slice base l c) ∧ w' = w := Any8.slices_Grow_room Tryz.laysGrowNamed base l c n w hlc hc63 hn63 hroom
theorem growNilNamed (i0 : TypeInfo) (z : Value) (hi0 : (Tryz.prog).info? 62 = some i0) (hz0 : i0.zero = some z) (hs0 : 0 < i0.size) (hb : i0.bytes ≤ 200) (n : Nat) (w : World) (h0 : 0 < n) (hn : n ≤ 1000000) :
    Calls Tryz.prog 239 #[.slice none 0 0, .int .i64 n] w fun e w' =>
      e = .returned (.slice (some ⟨w.heap.size, 0, none⟩) 0 (grownCap w (0 + n) 0 62)) ∧
      w' = w.drew.alloc (.cells (#[] ++ Builtin.zeroCells z.cells (0 + n - 0) ++ Builtin.zeroCells z.cells (grownCap w (0 + n) 0 62 - (0 + n))) 62) :=
  Any8.slices_Grow_grow Tryz.laysGrowNamed i0 z hi0 hz0 hs0 none 0 0 n [] w (Nat.le_refl _) (by omega) (Nat.le_trans (Nat.mul_le_mul (Nat.le_refl _) hb) (by omega)) (by omega) (by simp) (fun _ => rfl) (fun a h => by cases h)
theorem growRoomIface (base : Option Addr) (l c n : Nat) (w : World) (hlc : l ≤ c) (hc63 : c ≤ 9223372036854775807) (hn63 : n ≤ 9223372036854775807) (hroom : l + n ≤ c) :
    Calls Tryz.prog 224 #[.slice base l c, .int .i64 n] w fun e w' => e = .returned (.slice base l c) ∧ w' = w := Any8.slices_Grow_room Tryz.laysGrowIface base l c n w hlc hc63 hn63 hroom
theorem growNilIface (i0 : TypeInfo) (z : Value) (hi0 : (Tryz.prog).info? 51 = some i0) (hz0 : i0.zero = some z) (hs0 : 0 < i0.size) (hb : i0.bytes ≤ 200) (n : Nat) (w : World) (h0 : 0 < n) (hn : n ≤ 1000000) :
    Calls Tryz.prog 224 #[.slice none 0 0, .int .i64 n] w fun e w' =>
      e = .returned (.slice (some ⟨w.heap.size, 0, none⟩) 0 (grownCap w (0 + n) 0 51)) ∧
      w' = w.drew.alloc (.cells (#[] ++ Builtin.zeroCells z.cells (0 + n - 0) ++ Builtin.zeroCells z.cells (grownCap w (0 + n) 0 51 - (0 + n))) 51) :=
  Any8.slices_Grow_grow Tryz.laysGrowIface i0 z hi0 hz0 hs0 none 0 0 n [] w (Nat.le_refl _) (by omega) (Nat.le_trans (Nat.mul_le_mul (Nat.le_refl _) hb) (by omega)) (by omega) (by simp) (fun _ => rfl) (fun a h => by cases h)
end Go.Proofs.YtjeldfipipkfiaaGreatDoor
