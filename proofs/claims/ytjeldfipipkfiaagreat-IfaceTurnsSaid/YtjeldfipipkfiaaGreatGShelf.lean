/- Laid by the shelf's commands (lay-shelf.mjs, lay-plain.mjs): contracts of the library at this dump: slices_Sort_string, slices_Sort_string_none, slices_Compact_string, slices_Compact_string_empty. -/
import Derived.Shelf.Small.Bits
import Derived.Shelf.Strconv.Itoa0
import Derived.Shelf.Sort.Plain
import Derived.Shelf.Slices.Turned
import Derived.Shelf.Slices.Equal
import Derived.Ground.Names2Prog
import Derived.Shelf.Slices.Clone
import Derived.Shelf.Slices.CompactS
import Derived.Shelf.Slices.Cells
import Derived.Shelf.Slices.In.SortNone
import Derived.Shelf.Slices.Empties2
import Derived.Ground.SlgnProg
import Derived.Shelf.SlicesE.Clone
import Derived.Test.YtjeldfipipkfiaaGreatProg
import Derived.Shelf.Spec.SlicesGrow
import Derived.Sort.OwnSorted
import Derived.Lib.OwnBridge
import Derived.Test.YtjeldfipipkfiaaGreatGSub
namespace Go.Proofs
open Go.Shelf
def Tryz.lays190_ren : Go.Shelf.Ren := ⟨fun | 190 => 116 | 125 => 55 | 258 => 155 | 128 => 108 | 129 => 109 | 302 => 165 | 303 => 166 | 304 => 167 | 305 => 168 | 306 => 169 | 307 => 170 | 308 => 171 | 309 => 172 | 310 => 173 | 333 => 178 | 329 => 146 | 330 => 147 | 334 => 179 | 335 => 180 | 336 => 53 | 344 => 182 | n => n, fun | 31 => 50 | 9 => 9 | 3 => 3 | 46 => 101 | 0 => 0 | 51 => 134 | 53 => 136 | 4 => 4 | 183 => 127 | 182 => 126 | 131 => 131 | 5 => 5 | 218 => 156 | 222 => 160 | 228 => 171 | 229 => 172 | n => n, fun | n => n⟩
theorem Tryz.lays190 : Go.Proofs.Lays.n190 Tryz.prog Tryz.lays190_ren := {
  mixed := by kernel_rfl
  f125 := Tryz.func55.trans (congrArg some (by kernel_rfl))
  f128 := Tryz.func108.trans (congrArg some (by kernel_rfl))
  f129 := Tryz.func109.trans (congrArg some (by kernel_rfl))
  f190 := Tryz.func116.trans (congrArg some (by kernel_rfl))
  f258 := Tryz.func155.trans (congrArg some (by kernel_rfl))
  f302 := Tryz.func165.trans (congrArg some (by kernel_rfl))
  f303 := Tryz.func166.trans (congrArg some (by kernel_rfl))
  f304 := Tryz.func167.trans (congrArg some (by kernel_rfl))
  f305 := Tryz.func168.trans (congrArg some (by kernel_rfl))
  f306 := Tryz.func169.trans (congrArg some (by kernel_rfl))
  f307 := Tryz.func170.trans (congrArg some (by kernel_rfl))
  f308 := Tryz.func171.trans (congrArg some (by kernel_rfl))
  f309 := Tryz.func172.trans (congrArg some (by kernel_rfl))
  f310 := Tryz.func173.trans (congrArg some (by kernel_rfl))
  f329 := Tryz.func146.trans (congrArg some (by kernel_rfl))
  f330 := Tryz.func147.trans (congrArg some (by kernel_rfl))
  f333 := Tryz.func178.trans (congrArg some (by kernel_rfl))
  f334 := Tryz.func179.trans (congrArg some (by kernel_rfl))
  f335 := Tryz.func180.trans (congrArg some (by kernel_rfl))
  f336 := Tryz.func53.trans (congrArg some (by kernel_rfl))
  f344 := Tryz.func182.trans (congrArg some (by kernel_rfl))
  t0 := Tryz.underlying0
  a0 := Tryz.isAgg0
  z0 := Tryz.sizeOf0
  v0 := Tryz.zeroValue0
  t3 := Tryz.underlying3
  a3 := Tryz.isAgg3
  z3 := Tryz.sizeOf3
  v3 := Tryz.zeroValue3
  t4 := Tryz.underlying4
  a4 := Tryz.isAgg4
  z4 := Tryz.sizeOf4
  v4 := Tryz.zeroValue4
  t5 := Tryz.underlying5
  a5 := Tryz.isAgg5
  z5 := Tryz.sizeOf5
  v5 := Tryz.zeroValue5
  t9 := Tryz.underlying9
  a9 := Tryz.isAgg9
  z9 := Tryz.sizeOf9
  v9 := Tryz.zeroValue9
  t31 := Tryz.underlying50
  a31 := Tryz.isAgg50
  z31 := Tryz.sizeOf50
  v31 := Tryz.zeroValue50
  t46 := Tryz.underlying101
  a46 := Tryz.isAgg101
  z46 := Tryz.sizeOf101
  v46 := Tryz.zeroValue101
  t51 := Tryz.underlying134
  a51 := Tryz.isAgg134
  z51 := Tryz.sizeOf134
  v51 := Tryz.zeroValue134
  t53 := Tryz.underlying136
  a53 := Tryz.isAgg136
  z53 := Tryz.sizeOf136
  v53 := Tryz.zeroValue136
  t131 := Tryz.underlying131
  a131 := Tryz.isAgg131
  z131 := Tryz.sizeOf131
  v131 := Tryz.zeroValue131
  t182 := Tryz.underlying126
  a182 := Tryz.isAgg126
  z182 := Tryz.sizeOf126
  v182 := Tryz.zeroValue126
  t183 := Tryz.underlying127
  a183 := Tryz.isAgg127
  z183 := Tryz.sizeOf127
  v183 := Tryz.zeroValue127
  t218 := Tryz.underlying156
  a218 := Tryz.isAgg156
  z218 := Tryz.sizeOf156
  v218 := Tryz.zeroValue156
  t222 := Tryz.underlying160
  a222 := Tryz.isAgg160
  z222 := Tryz.sizeOf160
  v222 := Tryz.zeroValue160
  t228 := Tryz.underlying171
  a228 := Tryz.isAgg171
  z228 := Tryz.sizeOf171
  v228 := Tryz.zeroValue171
  t229 := Tryz.underlying172
  a229 := Tryz.isAgg172
  z229 := Tryz.sizeOf172
  v229 := Tryz.zeroValue172 }
open Go.Sort Go.RowKit in
theorem Tryz.slices_Sort_string (blk off cap : Nat) (ss : List (List UInt8)) (w : World) (hH : Holds encStr w blk off ss.toArray) (hblk : blk < w.heap.size) (hsz : ss.length < 4611686018427387904) :
    Calls Tryz.prog 116 #[.slice (some ⟨blk, off, none⟩) ss.length cap] w fun e w' =>
      e = .returned (.tuple #[]) ∧ ∃ n os, w' = grow (putRow encStr (Sort.ahead w n) blk off (ss.mergeSort fun x y => decide (x ≤ y)).toArray) os := Any.slices_Sort_string Tryz.lays190 blk off cap ss w hH hblk hsz
def Tryz.lays194_ren : Go.Shelf.Ren := ⟨fun | 194 => 117 | n => n, fun | 31 => 50 | 9 => 9 | 3 => 3 | 4 => 4 | 0 => 0 | n => n, fun | n => n⟩
theorem Tryz.lays194 : Go.Proofs.Lays.n194 Tryz.prog Tryz.lays194_ren := {
  mixed := by kernel_rfl
  f194 := Tryz.func117.trans (congrArg some (by kernel_rfl))
  t0 := Tryz.underlying0
  a0 := Tryz.isAgg0
  z0 := Tryz.sizeOf0
  v0 := Tryz.zeroValue0
  t3 := Tryz.underlying3
  a3 := Tryz.isAgg3
  z3 := Tryz.sizeOf3
  v3 := Tryz.zeroValue3
  t4 := Tryz.underlying4
  a4 := Tryz.isAgg4
  z4 := Tryz.sizeOf4
  v4 := Tryz.zeroValue4
  t9 := Tryz.underlying9
  a9 := Tryz.isAgg9
  z9 := Tryz.sizeOf9
  v9 := Tryz.zeroValue9
  t31 := Tryz.underlying50
  a31 := Tryz.isAgg50
  z31 := Tryz.sizeOf50
  v31 := Tryz.zeroValue50 }
open Go.RowKit Go.Lib Go.Sort in
theorem Tryz.slices_Compact_string (blk off cap : Nat) (zs : List (List UInt8)) (w : World) (hH : Holds encStr w blk off zs.toArray) (hsz : zs.length ≤ 9223372036854775807) (hcap : zs.length ≤ cap) :
    Calls Tryz.prog 117 #[.slice (some ⟨blk, off, none⟩) zs.length cap] w fun e w' => e = .returned (.slice (some ⟨blk, off, none⟩) (Lib.compact zs).length cap) ∧ ∃ q, w' = putRow encStr (Sort.ahead w q) blk off (Lib.compact zs ++ List.replicate (zs.length - (Lib.compact zs).length) []).toArray := Any.slices_Compact_string Tryz.lays194 blk off cap zs w hH hsz hcap
open Go.RowKit Go.Lib Go.Sort in
theorem Tryz.slices_Compact_string_empty (a : Option Addr) (cap : Nat) (w : World) :
    Calls Tryz.prog 117 #[.slice a 0 cap] w fun e w' => e = .returned (.slice a 0 cap) ∧ w' = w := Any.slices_Compact_string_empty Tryz.lays194 a cap w
open Go.RowKit Go.Sort in
theorem Tryz.slices_Sort_string_none (p : Option Addr) (cap : Nat) (w : World) :
    Calls Tryz.prog 116 #[.slice p 0 cap] w fun e w' => e = .returned (.tuple #[]) ∧ w' = w := Any.slices_Sort_string_none Tryz.lays190 p cap w
end Go.Proofs
namespace Go.Proofs
open Go.Shelf
def Tryz.laysGrowNamed_ren : Go.Shelf.Ren := ⟨fun | 4 => 174 | n => n, fun | 22 => 31 | 25 => 57 | 3 => 3 | 4 => 4 | 9 => 9 | 20 => 20 | 0 => 0 | n => n, fun | n => n⟩
def Tryz.laysGrowIface_ren : Go.Shelf.Ren := ⟨fun | 4 => 154 | n => n, fun | 22 => 26 | 25 => 33 | 3 => 3 | 4 => 4 | 9 => 9 | 20 => 20 | 0 => 0 | n => n, fun | n => n⟩
end Go.Proofs
namespace Go.Proofs.YtjeldfipipkfiaaGreat
open Go.RowKit Go.Shelf Go.Sort
theorem sort_c (blk off cap : Nat) (ss : List (List UInt8)) (w : World) (hH : Holds encStr w blk off ss.toArray) (hblk : blk < w.heap.size) (hsz : ss.length < 4611686018427387904) :
    Calls Tryz.prog 116 #[.slice (some ⟨blk, off, none⟩) ss.length cap] w fun e w' => e = .returned (.tuple #[]) ∧ ∃ n os, w' = grow (putRow encStr (Sort.ahead w n) blk off (ss.mergeSort fun x y => decide (x ≤ y)).toArray) os :=
  Any.slices_Sort_string Tryz.lays190 blk off cap ss w hH hblk hsz
theorem sort0_c (p : Option Addr) (cap : Nat) (w : World) : Calls Tryz.prog 116 #[.slice p 0 cap] w fun e w' => e = .returned (.tuple #[]) ∧ w' = w := Any.slices_Sort_string_none Tryz.lays190 p cap w
end Go.Proofs.YtjeldfipipkfiaaGreat
namespace Go.Proofs.YtjeldfipipkfiaaGreat
set_option linter.unusedSimpArgs false
set_option linter.unusedVariables false
end Go.Proofs.YtjeldfipipkfiaaGreat
namespace Go.Proofs.YtjeldfipipkfiaaGreat
open Go.RowKit Go.Sort
set_option linter.unusedSimpArgs false
set_option linter.unusedVariables false
def uL (l : List ByteArray) : List (List UInt8) := l.map (·.data.toList)
def uB (l : List (List UInt8)) : List ByteArray := l.map fun x => ⟨x.toArray⟩
theorem enc_uL (l : List ByteArray) : (uL l).map encStr = l.map Value.string := Lib.map_encStr l
theorem uL_uB (l : List (List UInt8)) : uL (uB l) = l := by
  unfold uL uB
  rw [List.map_map]
  exact (List.map_congr_left (fun x _ => by simp)).trans (List.map_id _)
theorem enc_uB (l : List (List UInt8)) : (uB l).map Value.string = l.map encStr := by rw [← enc_uL, uL_uB]
theorem uL_len (l : List ByteArray) : (uL l).length = l.length := List.length_map ..
theorem uB_len (l : List (List UInt8)) : (uB l).length = l.length := List.length_map ..
theorem mem_uL {x : ByteArray} {l : List ByteArray} : x.data.toList ∈ uL l ↔ x ∈ l := by
  constructor
  · intro h
    obtain ⟨y, hy, e⟩ := List.mem_map.1 h
    have : y = x := by cases x; cases y; simp_all
    exact this ▸ hy
  · exact fun h => List.mem_map.2 ⟨x, h, rfl⟩
theorem mem_uB {x : ByteArray} {l : List (List UInt8)} : x ∈ uB l ↔ x.data.toList ∈ l := by rw [← mem_uL, uL_uB]
def sortN (l : List ByteArray) : List ByteArray := uB ((uL l).mergeSort fun x y => decide (x ≤ y))
def compN (l : List ByteArray) : List ByteArray := uB (Lib.compact (uL l))
def unionN (l l' : List ByteArray) : List ByteArray := compN (sortN (l ++ l'))
theorem sortN_len (l : List ByteArray) : (sortN l).length = l.length := by rw [sortN, uB_len, List.length_mergeSort, uL_len]
theorem sortU_c {base n : Nat} {v : Value} {l : List ByteArray} {w w0 : World} (h : w.ownsRow base 9 1 v n (l.map Value.string)) (hb : Below base w0 w) (hn : n ≤ 1000000) :
    Calls Tryz.prog 116 #[v] w fun e w' => e = .returned (.tuple #[]) ∧ w'.ownsRow base 9 1 v n ((sortN l).map Value.string) ∧ Below base w0 w' := by
  by_cases hv : v = .slice none 0 0
  · subst hv
    refine (sort0_c none 0 w).mono ?_
    rintro e w' ⟨rfl, rfl⟩
    have h0 : n = 0 := by
      rcases h.2 with ⟨-, h0⟩ | ⟨g, cap, cur, h0, -⟩
      · exact h0
      · simp at h0
    have hl : l = [] := by have := h.1; simp [h0] at this; exact this
    subst hl
    exact ⟨rfl, by rw [sortN]; simpa [uL, uB] using h, hb⟩
  · rw [← enc_uL] at h
    obtain ⟨g, cap, rfl, hbg, hgl, hnc, hcm, hlen, hH⟩ := Lib.holds_of_ownsRow h hv
    subst hlen
    refine (sort_c g 0 cap (uL l) w hH hgl (by omega)).mono ?_
    rintro e w' ⟨rfl, nn, os, rfl⟩
    obtain ⟨-, ⟨h0, -⟩ | ⟨g', cap', cur, h0, h1, h2, h3, h4, h5, -⟩⟩ := h
    · cases h0
    cases h0
    refine ⟨rfl, ?_, hb.grown (grownBy_sorted _) (by omega) (fun j hj => by cases hj; exact hbg)⟩
    rw [sortN, enc_uB]
    exact ownsRow_sorted (List.length_mergeSort _) hbg h2 h3 h4 h5
end Go.Proofs.YtjeldfipipkfiaaGreat
