/- slices.Sort and slices.Compact at []string in this seat's numbers; slices.Grow at rows of interfaces and of named types, laid by hand. -/
import Derived.Test.YtcohjjepigikjaaShelf
import Derived.Shelf.Spec.SlicesGrow
import Derived.Sort.OwnSorted
import Derived.Lib.OwnBridge
namespace Go.Proofs
open Go.Shelf
def Try.laysGrowNamed_ren : Go.Shelf.Ren := ⟨fun | 4 => 69 | n => n, fun | 22 => 44 | 25 => 43 | 3 => 3 | 4 => 4 | 9 => 9 | 20 => 20 | 0 => 0 | n => n, fun | n => n⟩
theorem Try.laysGrowNamed : Go.Proofs.Lays8.n4 Try.prog Try.laysGrowNamed_ren := {
  mixed := by kernel_rfl
  f4 := ⟨Try.f69.name, by decide, Try.func69.trans (congrArg some (by kernel_rfl))⟩
  t0 := Try.underlying0
  a0 := Try.isAgg0
  z0 := Try.sizeOf0
  v0 := Try.zeroValue0
  t3 := Try.underlying3
  a3 := Try.isAgg3
  z3 := Try.sizeOf3
  v3 := Try.zeroValue3
  t4 := Try.underlying4
  a4 := Try.isAgg4
  z4 := Try.sizeOf4
  v4 := Try.zeroValue4
  t9 := Try.underlying9
  a9 := Try.isAgg9
  z9 := Try.sizeOf9
  v9 := Try.zeroValue9
  t20 := Try.underlying20
  a20 := Try.isAgg20
  z20 := Try.sizeOf20
  v20 := Try.zeroValue20
  t22 := Try.underlying44
  a22 := Try.isAgg44
  z22 := Try.sizeOf44
  v22 := Try.zeroValue44 }
def Try.laysGrowIface_ren : Go.Shelf.Ren := ⟨fun | 4 => 41 | n => n, fun | 22 => 22 | 25 => 46 | 3 => 3 | 4 => 4 | 9 => 9 | 20 => 20 | 0 => 0 | n => n, fun | n => n⟩
theorem Try.laysGrowIface : Go.Proofs.Lays8.n4 Try.prog Try.laysGrowIface_ren := {
  mixed := by kernel_rfl
  f4 := ⟨Try.f41.name, by decide, Try.func41.trans (congrArg some (by kernel_rfl))⟩
  t0 := Try.underlying0
  a0 := Try.isAgg0
  z0 := Try.sizeOf0
  v0 := Try.zeroValue0
  t3 := Try.underlying3
  a3 := Try.isAgg3
  z3 := Try.sizeOf3
  v3 := Try.zeroValue3
  t4 := Try.underlying4
  a4 := Try.isAgg4
  z4 := Try.sizeOf4
  v4 := Try.zeroValue4
  t9 := Try.underlying9
  a9 := Try.isAgg9
  z9 := Try.sizeOf9
  v9 := Try.zeroValue9
  t20 := Try.underlying20
  a20 := Try.isAgg20
  z20 := Try.sizeOf20
  v20 := Try.zeroValue20
  t22 := Try.underlying22
  a22 := Try.isAgg22
  z22 := Try.sizeOf22
  v22 := Try.zeroValue22 }
end Go.Proofs
namespace Go.Proofs.Ytcohjjepigikjaa
open Go.RowKit Go.Shelf Go.Sort
theorem sort_c (blk off cap : Nat) (ss : List (List UInt8)) (w : World) (hH : Holds encStr w blk off ss.toArray) (hblk : blk < w.heap.size) (hsz : ss.length < 4611686018427387904) :
    Calls Try.prog 27 #[.slice (some ⟨blk, off, none⟩) ss.length cap] w fun e w' => e = .returned (.tuple #[]) ∧ ∃ n os, w' = grow (putRow encStr (Sort.ahead w n) blk off (ss.mergeSort fun x y => decide (x ≤ y)).toArray) os :=
  Any.slices_Sort_string Try.lays190 blk off cap ss w hH hblk hsz
theorem sort0_c (p : Option Addr) (cap : Nat) (w : World) : Calls Try.prog 27 #[.slice p 0 cap] w fun e w' => e = .returned (.tuple #[]) ∧ w' = w := Any.slices_Sort_string_none Try.lays190 p cap w
theorem comp_c (blk off cap : Nat) (zs : List (List UInt8)) (w : World) (hH : Holds encStr w blk off zs.toArray) (hsz : zs.length ≤ 9223372036854775807) (hcap : zs.length ≤ cap) :
    Calls Try.prog 28 #[.slice (some ⟨blk, off, none⟩) zs.length cap] w fun e w' => e = .returned (.slice (some ⟨blk, off, none⟩) (Lib.compact zs).length cap) ∧ ∃ q, w' = putRow encStr (Sort.ahead w q) blk off (Lib.compact zs ++ List.replicate (zs.length - (Lib.compact zs).length) []).toArray :=
  Any.slices_Compact_string Try.lays194 blk off cap zs w hH hsz hcap
theorem comp0_c (p : Option Addr) (cap : Nat) (w : World) : Calls Try.prog 28 #[.slice p 0 cap] w fun e w' => e = .returned (.slice p 0 cap) ∧ w' = w := Any.slices_Compact_string_empty Try.lays194 p cap w
theorem growRoomNamed (base : Option Addr) (l c n : Nat) (w : World) (hlc : l ≤ c) (hc63 : c ≤ 9223372036854775807) (hn63 : n ≤ 9223372036854775807) (hroom : l + n ≤ c) :
    Calls Try.prog 69 #[.slice base l c, .int .i64 n] w fun e w' => e = .returned (.slice base l c) ∧ w' = w := Any8.slices_Grow_room Try.laysGrowNamed base l c n w hlc hc63 hn63 hroom
theorem growNilNamed (i0 : TypeInfo) (z : Value) (hi0 : (Try.prog).info? 43 = some i0) (hz0 : i0.zero = some z) (hs0 : 0 < i0.size) (hb : i0.bytes ≤ 200) (n : Nat) (w : World) (h0 : 0 < n) (hn : n ≤ 1000000) :
    Calls Try.prog 69 #[.slice none 0 0, .int .i64 n] w fun e w' =>
      e = .returned (.slice (some ⟨w.heap.size, 0, none⟩) 0 (grownCap w (0 + n) 0 43)) ∧
      w' = w.drew.alloc (.cells (#[] ++ Builtin.zeroCells z.cells (0 + n - 0) ++ Builtin.zeroCells z.cells (grownCap w (0 + n) 0 43 - (0 + n))) 43) :=
  Any8.slices_Grow_grow Try.laysGrowNamed i0 z hi0 hz0 hs0 none 0 0 n [] w (Nat.le_refl _) (by omega) (Nat.le_trans (Nat.mul_le_mul (Nat.le_refl _) hb) (by omega)) (by omega) (by simp) (fun _ => rfl) (fun a h => by cases h)
theorem growRoomIface (base : Option Addr) (l c n : Nat) (w : World) (hlc : l ≤ c) (hc63 : c ≤ 9223372036854775807) (hn63 : n ≤ 9223372036854775807) (hroom : l + n ≤ c) :
    Calls Try.prog 41 #[.slice base l c, .int .i64 n] w fun e w' => e = .returned (.slice base l c) ∧ w' = w := Any8.slices_Grow_room Try.laysGrowIface base l c n w hlc hc63 hn63 hroom
theorem growNilIface (i0 : TypeInfo) (z : Value) (hi0 : (Try.prog).info? 46 = some i0) (hz0 : i0.zero = some z) (hs0 : 0 < i0.size) (hb : i0.bytes ≤ 200) (n : Nat) (w : World) (h0 : 0 < n) (hn : n ≤ 1000000) :
    Calls Try.prog 41 #[.slice none 0 0, .int .i64 n] w fun e w' =>
      e = .returned (.slice (some ⟨w.heap.size, 0, none⟩) 0 (grownCap w (0 + n) 0 46)) ∧
      w' = w.drew.alloc (.cells (#[] ++ Builtin.zeroCells z.cells (0 + n - 0) ++ Builtin.zeroCells z.cells (grownCap w (0 + n) 0 46 - (0 + n))) 46) :=
  Any8.slices_Grow_grow Try.laysGrowIface i0 z hi0 hz0 hs0 none 0 0 n [] w (Nat.le_refl _) (by omega) (Nat.le_trans (Nat.mul_le_mul (Nat.le_refl _) hb) (by omega)) (by omega) (by simp) (fun _ => rfl) (fun a h => by cases h)
end Go.Proofs.Ytcohjjepigikjaa
