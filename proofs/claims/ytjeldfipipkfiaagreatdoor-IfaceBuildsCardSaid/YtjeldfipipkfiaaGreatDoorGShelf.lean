/- Laid by the shelf's commands (lay-shelf.mjs, lay-plain.mjs): contracts of the library at this dump: slices_Sort_string, slices_Sort_string_none, slices_Compact_string, slices_Compact_string_empty. -/
import Derived.Shelf.Strings.Builder1
import Derived.Shelf.Strings.Builder2
import Derived.Shelf.Small.Bits
import Derived.Shelf.Strconv.Itoa0
import Derived.Shelf.Strconv.Itoa1
import Derived.Shelf.LaysM
import Derived.Shelf.Strconv.Itoa2
import Derived.Shelf.Strconv.Itoa3
import Derived.Shelf.Sort.Plain
import Derived.Ground.Names2Prog
import Derived.Shelf.Slices.Clone
import Derived.Shelf.Slices.CompactS
import Derived.Shelf.Slices.Cells
import Derived.Shelf.Slices.In.SortNone
import Derived.Ground.SlgnProg
import Derived.Shelf.SlicesE.Clone
import Derived.Test.YtjeldfipipkfiaaGreatDoorProg
import Derived.Shelf.Spec.SlicesGrow
import Derived.Sort.OwnSorted
import Derived.Lib.OwnBridge
import Derived.Test.YtjeldfipipkfiaaGreatDoorGSub
namespace Go.Proofs
open Go.Shelf
def Tryz.lays190_ren : Go.Shelf.Ren := ⟨fun | 190 => 55 | 125 => 111 | 258 => 110 | 128 => 181 | 129 => 182 | 302 => 172 | 303 => 173 | 304 => 174 | 305 => 175 | 306 => 176 | 307 => 177 | 308 => 178 | 309 => 179 | 310 => 180 | 333 => 213 | 329 => 214 | 330 => 215 | 334 => 216 | 335 => 217 | 336 => 137 | 344 => 232 | n => n, fun | 31 => 26 | 9 => 9 | 3 => 3 | 46 => 149 | 0 => 0 | 51 => 203 | 53 => 205 | 4 => 4 | 183 => 195 | 182 => 194 | 131 => 200 | 5 => 5 | 218 => 240 | 222 => 244 | 228 => 257 | 229 => 36 | n => n, fun | n => n⟩
theorem Tryz.lays190 : Go.Proofs.Lays.n190 Tryz.prog Tryz.lays190_ren := {
  mixed := by kernel_rfl
  f125 := Tryz.func111.trans (congrArg some (by kernel_rfl))
  f128 := Tryz.func181.trans (congrArg some (by kernel_rfl))
  f129 := Tryz.func182.trans (congrArg some (by kernel_rfl))
  f190 := Tryz.func55.trans (congrArg some (by kernel_rfl))
  f258 := Tryz.func110.trans (congrArg some (by kernel_rfl))
  f302 := Tryz.func172.trans (congrArg some (by kernel_rfl))
  f303 := Tryz.func173.trans (congrArg some (by kernel_rfl))
  f304 := Tryz.func174.trans (congrArg some (by kernel_rfl))
  f305 := Tryz.func175.trans (congrArg some (by kernel_rfl))
  f306 := Tryz.func176.trans (congrArg some (by kernel_rfl))
  f307 := Tryz.func177.trans (congrArg some (by kernel_rfl))
  f308 := Tryz.func178.trans (congrArg some (by kernel_rfl))
  f309 := Tryz.func179.trans (congrArg some (by kernel_rfl))
  f310 := Tryz.func180.trans (congrArg some (by kernel_rfl))
  f329 := Tryz.func214.trans (congrArg some (by kernel_rfl))
  f330 := Tryz.func215.trans (congrArg some (by kernel_rfl))
  f333 := Tryz.func213.trans (congrArg some (by kernel_rfl))
  f334 := Tryz.func216.trans (congrArg some (by kernel_rfl))
  f335 := Tryz.func217.trans (congrArg some (by kernel_rfl))
  f336 := Tryz.func137.trans (congrArg some (by kernel_rfl))
  f344 := Tryz.func232.trans (congrArg some (by kernel_rfl))
  t0 := Tryz.underlying0
  a0 := Tryz.isAgg0
  z0 := Tryz.sizeOf0
  v0 := Tryz.zeroValue0
  t3 := Tryz.underlying3
  a3 := Tryz.isAgg3
  z3 := Tryz.sizeOf3
  v3 := Tryz.zeroValue3
  t4 := Tryz.underlying4
  a4 := Tryz.isAgg4
  z4 := Tryz.sizeOf4
  v4 := Tryz.zeroValue4
  t5 := Tryz.underlying5
  a5 := Tryz.isAgg5
  z5 := Tryz.sizeOf5
  v5 := Tryz.zeroValue5
  t9 := Tryz.underlying9
  a9 := Tryz.isAgg9
  z9 := Tryz.sizeOf9
  v9 := Tryz.zeroValue9
  t31 := Tryz.underlying26
  a31 := Tryz.isAgg26
  z31 := Tryz.sizeOf26
  v31 := Tryz.zeroValue26
  t46 := Tryz.underlying149
  a46 := Tryz.isAgg149
  z46 := Tryz.sizeOf149
  v46 := Tryz.zeroValue149
  t51 := Tryz.underlying203
  a51 := Tryz.isAgg203
  z51 := Tryz.sizeOf203
  v51 := Tryz.zeroValue203
  t53 := Tryz.underlying205
  a53 := Tryz.isAgg205
  z53 := Tryz.sizeOf205
  v53 := Tryz.zeroValue205
  t131 := Tryz.underlying200
  a131 := Tryz.isAgg200
  z131 := Tryz.sizeOf200
  v131 := Tryz.zeroValue200
  t182 := Tryz.underlying194
  a182 := Tryz.isAgg194
  z182 := Tryz.sizeOf194
  v182 := Tryz.zeroValue194
  t183 := Tryz.underlying195
  a183 := Tryz.isAgg195
  z183 := Tryz.sizeOf195
  v183 := Tryz.zeroValue195
  t218 := Tryz.underlying240
  a218 := Tryz.isAgg240
  z218 := Tryz.sizeOf240
  v218 := Tryz.zeroValue240
  t222 := Tryz.underlying244
  a222 := Tryz.isAgg244
  z222 := Tryz.sizeOf244
  v222 := Tryz.zeroValue244
  t228 := Tryz.underlying257
  a228 := Tryz.isAgg257
  z228 := Tryz.sizeOf257
  v228 := Tryz.zeroValue257
  t229 := Tryz.underlying36
  a229 := Tryz.isAgg36
  z229 := Tryz.sizeOf36
  v229 := Tryz.zeroValue36 }
open Go.Sort Go.RowKit in
theorem Tryz.slices_Sort_string (blk off cap : Nat) (ss : List (List UInt8)) (w : World) (hH : Holds encStr w blk off ss.toArray) (hblk : blk < w.heap.size) (hsz : ss.length < 4611686018427387904) :
    Calls Tryz.prog 55 #[.slice (some ⟨blk, off, none⟩) ss.length cap] w fun e w' =>
      e = .returned (.tuple #[]) ∧ ∃ n os, w' = grow (putRow encStr (Sort.ahead w n) blk off (ss.mergeSort fun x y => decide (x ≤ y)).toArray) os := Any.slices_Sort_string Tryz.lays190 blk off cap ss w hH hblk hsz
def Tryz.lays194_ren : Go.Shelf.Ren := ⟨fun | 194 => 204 | n => n, fun | 31 => 26 | 9 => 9 | 3 => 3 | 4 => 4 | 0 => 0 | n => n, fun | n => n⟩
theorem Tryz.lays194 : Go.Proofs.Lays.n194 Tryz.prog Tryz.lays194_ren := {
  mixed := by kernel_rfl
  f194 := Tryz.func204.trans (congrArg some (by kernel_rfl))
  t0 := Tryz.underlying0
  a0 := Tryz.isAgg0
  z0 := Tryz.sizeOf0
  v0 := Tryz.zeroValue0
  t3 := Tryz.underlying3
  a3 := Tryz.isAgg3
  z3 := Tryz.sizeOf3
  v3 := Tryz.zeroValue3
  t4 := Tryz.underlying4
  a4 := Tryz.isAgg4
  z4 := Tryz.sizeOf4
  v4 := Tryz.zeroValue4
  t9 := Tryz.underlying9
  a9 := Tryz.isAgg9
  z9 := Tryz.sizeOf9
  v9 := Tryz.zeroValue9
  t31 := Tryz.underlying26
  a31 := Tryz.isAgg26
  z31 := Tryz.sizeOf26
  v31 := Tryz.zeroValue26 }
open Go.RowKit Go.Lib Go.Sort in
theorem Tryz.slices_Compact_string (blk off cap : Nat) (zs : List (List UInt8)) (w : World) (hH : Holds encStr w blk off zs.toArray) (hsz : zs.length ≤ 9223372036854775807) (hcap : zs.length ≤ cap) :
    Calls Tryz.prog 204 #[.slice (some ⟨blk, off, none⟩) zs.length cap] w fun e w' => e = .returned (.slice (some ⟨blk, off, none⟩) (Lib.compact zs).length cap) ∧ ∃ q, w' = putRow encStr (Sort.ahead w q) blk off (Lib.compact zs ++ List.replicate (zs.length - (Lib.compact zs).length) []).toArray := Any.slices_Compact_string Tryz.lays194 blk off cap zs w hH hsz hcap
open Go.RowKit Go.Lib Go.Sort in
theorem Tryz.slices_Compact_string_empty (a : Option Addr) (cap : Nat) (w : World) :
    Calls Tryz.prog 204 #[.slice a 0 cap] w fun e w' => e = .returned (.slice a 0 cap) ∧ w' = w := Any.slices_Compact_string_empty Tryz.lays194 a cap w
open Go.RowKit Go.Sort in
theorem Tryz.slices_Sort_string_none (p : Option Addr) (cap : Nat) (w : World) :
    Calls Tryz.prog 55 #[.slice p 0 cap] w fun e w' => e = .returned (.tuple #[]) ∧ w' = w := Any.slices_Sort_string_none Tryz.lays190 p cap w
end Go.Proofs
namespace Go.Proofs
open Go.Shelf
def Tryz.laysGrowNamed_ren : Go.Shelf.Ren := ⟨fun | 4 => 239 | n => n, fun | 22 => 49 | 25 => 62 | 3 => 3 | 4 => 4 | 9 => 9 | 20 => 20 | 0 => 0 | n => n, fun | n => n⟩
def Tryz.laysGrowIface_ren : Go.Shelf.Ren := ⟨fun | 4 => 224 | n => n, fun | 22 => 47 | 25 => 51 | 3 => 3 | 4 => 4 | 9 => 9 | 20 => 20 | 0 => 0 | n => n, fun | n => n⟩
end Go.Proofs
namespace Go.Proofs.YtjeldfipipkfiaaGreatDoor
open Go.RowKit Go.Shelf Go.Sort
theorem sort_c (blk off cap : Nat) (ss : List (List UInt8)) (w : World) (hH : Holds encStr w blk off ss.toArray) (hblk : blk < w.heap.size) (hsz : ss.length < 4611686018427387904) :
    Calls Tryz.prog 55 #[.slice (some ⟨blk, off, none⟩) ss.length cap] w fun e w' => e = .returned (.tuple #[]) ∧ ∃ n os, w' = grow (putRow encStr (Sort.ahead w n) blk off (ss.mergeSort fun x y => decide (x ≤ y)).toArray) os :=
  Any.slices_Sort_string Tryz.lays190 blk off cap ss w hH hblk hsz
theorem sort0_c (p : Option Addr) (cap : Nat) (w : World) : Calls Tryz.prog 55 #[.slice p 0 cap] w fun e w' => e = .returned (.tuple #[]) ∧ w' = w := Any.slices_Sort_string_none Tryz.lays190 p cap w
end Go.Proofs.YtjeldfipipkfiaaGreatDoor
namespace Go.Proofs.YtjeldfipipkfiaaGreatDoor
set_option linter.unusedSimpArgs false
set_option linter.unusedVariables false
theorem rise_tail {x : ByteArray} {l : List ByteArray} (h : riseB (x :: l) = true) : riseB l = true := by
  cases l with
  | nil => rfl
  | cons y l =>
    rw [riseB, Bool.and_eq_true] at h
    exact h.2
theorem rise_head {x : ByteArray} {l : List ByteArray} (h : riseB (x :: l) = true) {y : ByteArray} (hy : y ∈ l) : ltB x y = true := by
  obtain ⟨i, hi, rfl⟩ := List.getElem_of_mem hy
  exact rise_lt h 0 (i + 1) (by omega) (by simpa using hi)
theorem rise_eq : ∀ {l m : List ByteArray}, riseB l = true → riseB m = true → (∀ s, s ∈ l ↔ s ∈ m) → l = m
  | [], [], _, _, _ => rfl
  | [], y :: m, _, _, h => absurd ((h y).2 (by simp)) (by simp)
  | x :: l, [], _, _, h => absurd ((h x).1 (by simp)) (by simp)
  | x :: l, y :: m, hl, hm, h => by
    have e : x = y := by
      rcases List.mem_cons.1 ((h x).1 (by simp)) with e | hx
      · exact e
      · rcases List.mem_cons.1 ((h y).2 (by simp)) with e | hy
        · exact e.symm
        · have h1 := rise_head hm hx
          have h2 := rise_head hl hy
          have := ltB_trans h1 h2
          rw [ltB_irrefl] at this
          exact absurd this (by decide)
    subst e
    rw [rise_eq (rise_tail hl) (rise_tail hm) fun s => ?_]
    constructor
    · intro hs
      rcases List.mem_cons.1 ((h s).1 (List.mem_cons_of_mem _ hs)) with e | hs'
      · subst e
        have := rise_head hl hs
        rw [ltB_irrefl] at this
        exact absurd this (by decide)
      · exact hs'
    · intro hs
      rcases List.mem_cons.1 ((h s).2 (List.mem_cons_of_mem _ hs)) with e | hs'
      · subst e
        have := rise_head hm hs
        rw [ltB_irrefl] at this
        exact absurd this (by decide)
      · exact hs'
end Go.Proofs.YtjeldfipipkfiaaGreatDoor
namespace Go.Proofs.YtjeldfipipkfiaaGreatDoor
open Go.RowKit Go.Sort
set_option linter.unusedSimpArgs false
set_option linter.unusedVariables false
def uL (l : List ByteArray) : List (List UInt8) := l.map (·.data.toList)
def uB (l : List (List UInt8)) : List ByteArray := l.map fun x => ⟨x.toArray⟩
theorem enc_uL (l : List ByteArray) : (uL l).map encStr = l.map Value.string := Lib.map_encStr l
theorem uL_uB (l : List (List UInt8)) : uL (uB l) = l := by
  unfold uL uB
  rw [List.map_map]
  exact (List.map_congr_left (fun x _ => by simp)).trans (List.map_id _)
theorem enc_uB (l : List (List UInt8)) : (uB l).map Value.string = l.map encStr := by rw [← enc_uL, uL_uB]
theorem uL_len (l : List ByteArray) : (uL l).length = l.length := List.length_map ..
theorem uB_len (l : List (List UInt8)) : (uB l).length = l.length := List.length_map ..
theorem mem_uL {x : ByteArray} {l : List ByteArray} : x.data.toList ∈ uL l ↔ x ∈ l := by
  constructor
  · intro h
    obtain ⟨y, hy, e⟩ := List.mem_map.1 h
    have : y = x := by cases x; cases y; simp_all
    exact this ▸ hy
  · exact fun h => List.mem_map.2 ⟨x, h, rfl⟩
theorem mem_uB {x : ByteArray} {l : List (List UInt8)} : x ∈ uB l ↔ x.data.toList ∈ l := by rw [← mem_uL, uL_uB]
def sortN (l : List ByteArray) : List ByteArray := uB ((uL l).mergeSort fun x y => decide (x ≤ y))
def compN (l : List ByteArray) : List ByteArray := uB (Lib.compact (uL l))
def unionN (l l' : List ByteArray) : List ByteArray := compN (sortN (l ++ l'))
theorem sortN_len (l : List ByteArray) : (sortN l).length = l.length := by rw [sortN, uB_len, List.length_mergeSort, uL_len]
theorem rise_of_lt : ∀ (l : List (List UInt8)), l.Pairwise (fun x y => x < y) → riseB (uB l) = true := by
  intro l h
  rw [riseB_iff]
  intro i hi
  have hl : (uB l).length = l.length := uB_len l
  have h1 := List.pairwise_iff_getElem.1 h i (i + 1) (by omega) (by omega) (by omega)
  have e : ∀ j (hj : j < (uB l).length), (uB l)[j].toList = l[j]'(by omega) := fun j hj => by
    simp [uB]
  rw [ltB, e, e, bytesLess_eq]
  simpa using h1
theorem sortU_c {base n : Nat} {v : Value} {l : List ByteArray} {w w0 : World} (h : w.ownsRow base 9 1 v n (l.map Value.string)) (hb : Below base w0 w) (hn : n ≤ 1000000) :
    Calls Tryz.prog 55 #[v] w fun e w' => e = .returned (.tuple #[]) ∧ w'.ownsRow base 9 1 v n ((sortN l).map Value.string) ∧ Below base w0 w' := by
  by_cases hv : v = .slice none 0 0
  · subst hv
    refine (sort0_c none 0 w).mono ?_
    rintro e w' ⟨rfl, rfl⟩
    have h0 : n = 0 := by
      rcases h.2 with ⟨-, h0⟩ | ⟨g, cap, cur, h0, -⟩
      · exact h0
      · simp at h0
    have hl : l = [] := by have := h.1; simp [h0] at this; exact this
    subst hl
    exact ⟨rfl, by rw [sortN]; simpa [uL, uB] using h, hb⟩
  · rw [← enc_uL] at h
    obtain ⟨g, cap, rfl, hbg, hgl, hnc, hcm, hlen, hH⟩ := Lib.holds_of_ownsRow h hv
    subst hlen
    refine (sort_c g 0 cap (uL l) w hH hgl (by omega)).mono ?_
    rintro e w' ⟨rfl, nn, os, rfl⟩
    obtain ⟨-, ⟨h0, -⟩ | ⟨g', cap', cur, h0, h1, h2, h3, h4, h5, -⟩⟩ := h
    · cases h0
    cases h0
    refine ⟨rfl, ?_, hb.grown (grownBy_sorted _) (by omega) (fun j hj => by cases hj; exact hbg)⟩
    rw [sortN, enc_uB]
    exact ownsRow_sorted (List.length_mergeSort _) hbg h2 h3 h4 h5
end Go.Proofs.YtjeldfipipkfiaaGreatDoor
