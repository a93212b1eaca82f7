/- Laid by the shelf's commands (lay-shelf.mjs, lay-plain.mjs): contracts of the library at this dump: slices_Sort_string, slices_Sort_string_none, slices_Compact_string, slices_Compact_string_empty. -/
import Derived.Shelf.Strings.Builder1
import Derived.Shelf.Strings.Builder2
import Derived.Shelf.Small.Bits
import Derived.Shelf.Strconv.Itoa0
import Derived.Shelf.Strconv.Itoa1
import Derived.Shelf.LaysM
import Derived.Shelf.Strconv.Itoa2
import Derived.Shelf.Strconv.Itoa3
import Derived.Shelf.Sort.Plain
import Derived.Ground.Names2Prog
import Derived.Shelf.Slices.Clone
import Derived.Shelf.Slices.CompactS
import Derived.Shelf.Slices.Cells
import Derived.Shelf.Slices.In.SortNone
import Derived.Ground.SlgnProg
import Derived.Shelf.SlicesE.Clone
import Derived.Test.YtjeldfipipkfiaaGreatDoorProg
import Derived.Shelf.Spec.SlicesGrow
import Derived.Sort.OwnSorted
import Derived.Lib.OwnBridge
import Derived.Test.YtjeldfipipkfiaaGreatDoorGSub
namespace Go.Proofs
open Go.Shelf
def Tryz.lays190_ren : Go.Shelf.Ren := ⟨fun | 190 => 55 | 125 => 111 | 258 => 110 | 128 => 181 | 129 => 182 | 302 => 172 | 303 => 173 | 304 => 174 | 305 => 175 | 306 => 176 | 307 => 177 | 308 => 178 | 309 => 179 | 310 => 180 | 333 => 213 | 329 => 214 | 330 => 215 | 334 => 216 | 335 => 217 | 336 => 137 | 344 => 232 | n => n, fun | 31 => 26 | 9 => 9 | 3 => 3 | 46 => 149 | 0 => 0 | 51 => 203 | 53 => 205 | 4 => 4 | 183 => 195 | 182 => 194 | 131 => 200 | 5 => 5 | 218 => 240 | 222 => 244 | 228 => 257 | 229 => 36 | n => n, fun | n => n⟩
theorem Tryz.lays190 : Go.Proofs.Lays.n190 Tryz.prog Tryz.lays190_ren := {
  mixed := by kernel_rfl
  f125 := Tryz.func111.trans (congrArg some (by kernel_rfl))
  f128 := Tryz.func181.trans (congrArg some (by kernel_rfl))
  f129 := Tryz.func182.trans (congrArg some (by kernel_rfl))
  f190 := Tryz.func55.trans (congrArg some (by kernel_rfl))
  f258 := Tryz.func110.trans (congrArg some (by kernel_rfl))
  f302 := Tryz.func172.trans (congrArg some (by kernel_rfl))
  f303 := Tryz.func173.trans (congrArg some (by kernel_rfl))
  f304 := Tryz.func174.trans (congrArg some (by kernel_rfl))
  f305 := Tryz.func175.trans (congrArg some (by kernel_rfl))
  f306 := Tryz.func176.trans (congrArg some (by kernel_rfl))
  f307 := Tryz.func177.trans (congrArg some (by kernel_rfl))
  f308 := Tryz.func178.trans (congrArg some (by kernel_rfl))
  f309 := Tryz.func179.trans (congrArg some (by kernel_rfl))
  f310 := Tryz.func180.trans (congrArg some (by kernel_rfl))
  f329 := Tryz.func214.trans (congrArg some (by kernel_rfl))
  f330 := Tryz.func215.trans (congrArg some (by kernel_rfl))
  f333 := Tryz.func213.trans (congrArg some (by kernel_rfl))
  f334 := Tryz.func216.trans (congrArg some (by kernel_rfl))
  f335 := Tryz.func217.trans (congrArg some (by kernel_rfl))
  f336 := Tryz.func137.trans (congrArg some (by kernel_rfl))
  f344 := Tryz.func232.trans (congrArg some (by kernel_rfl))
  t0 := Tryz.underlying0
  a0 := Tryz.isAgg0
  z0 := Tryz.sizeOf0
  v0 := Tryz.zeroValue0
  t3 := Tryz.underlying3
  a3 := Tryz.isAgg3
  z3 := Tryz.sizeOf3
  v3 := Tryz.zeroValue3
  t4 := Tryz.underlying4
  a4 := Tryz.isAgg4
  z4 := Tryz.sizeOf4
  v4 := Tryz.zeroValue4
  t5 := Tryz.underlying5
  a5 := Tryz.isAgg5
  z5 := Tryz.sizeOf5
  v5 := Tryz.zeroValue5
  t9 := Tryz.underlying9
  a9 := Tryz.isAgg9
  z9 := Tryz.sizeOf9
  v9 := Tryz.zeroValue9
  t31 := Tryz.underlying26
  a31 := Tryz.isAgg26
  z31 := Tryz.sizeOf26
  v31 := Tryz.zeroValue26
  t46 := Tryz.underlying149
  a46 := Tryz.isAgg149
  z46 := Tryz.sizeOf149
  v46 := Tryz.zeroValue149
  t51 := Tryz.underlying203
  a51 := Tryz.isAgg203
  z51 := Tryz.sizeOf203
  v51 := Tryz.zeroValue203
  t53 := Tryz.underlying205
  a53 := Tryz.isAgg205
  z53 := Tryz.sizeOf205
  v53 := Tryz.zeroValue205
  t131 := Tryz.underlying200
  a131 := Tryz.isAgg200
  z131 := Tryz.sizeOf200
  v131 := Tryz.zeroValue200
  t182 := Tryz.underlying194
  a182 := Tryz.isAgg194
  z182 := Tryz.sizeOf194
  v182 := Tryz.zeroValue194
  t183 := Tryz.underlying195
  a183 := Tryz.isAgg195
  z183 := Tryz.sizeOf195
  v183 := Tryz.zeroValue195
  t218 := Tryz.underlying240
  a218 := Tryz.isAgg240
  z218 := Tryz.sizeOf240
  v218 := Tryz.zeroValue240
  t222 := Tryz.underlying244
  a222 := Tryz.isAgg244
  z222 := Tryz.sizeOf244
  v222 := Tryz.zeroValue244
  t228 := Tryz.underlying257
  a228 := Tryz.isAgg257
  z228 := Tryz.sizeOf257
  v228 := Tryz.zeroValue257
  t229 := Tryz.underlying36
  a229 := Tryz.isAgg36
  z229 := Tryz.sizeOf36
  v229 := Tryz.zeroValue36 }
open Go.Sort Go.RowKit in
theorem Tryz.slices_Sort_string (blk off cap : Nat) (ss : List (List UInt8)) (w : World) (hH : Holds encStr w blk off ss.toArray) (hblk : blk < w.heap.size) (hsz : ss.length < 4611686018427387904) :
    Calls Tryz.prog 55 #[.slice (some ⟨blk, off, none⟩) ss.length cap] w fun e w' =>
      e = .returned (.tuple #[]) ∧ ∃ n os, w' = grow (putRow encStr (Sort.ahead w n) blk off (ss.mergeSort fun x y => decide (x ≤ y)).toArray) os := Any.slices_Sort_string Tryz.lays190 blk off cap ss w hH hblk hsz
def Tryz.lays194_ren : Go.Shelf.Ren := ⟨fun | 194 => 204 | n => n, fun | 31 => 26 | 9 => 9 | 3 => 3 | 4 => 4 | 0 => 0 | n => n, fun | n => n⟩
theorem Tryz.lays194 : Go.Proofs.Lays.n194 Tryz.prog Tryz.lays194_ren := {
  mixed := by kernel_rfl
  f194 := Tryz.func204.trans (congrArg some (by kernel_rfl))
  t0 := Tryz.underlying0
  a0 := Tryz.isAgg0
  z0 := Tryz.sizeOf0
  v0 := Tryz.zeroValue0
  t3 := Tryz.underlying3
  a3 := Tryz.isAgg3
  z3 := Tryz.sizeOf3
  v3 := Tryz.zeroValue3
  t4 := Tryz.underlying4
  a4 := Tryz.isAgg4
  z4 := Tryz.sizeOf4
  v4 := Tryz.zeroValue4
  t9 := Tryz.underlying9
  a9 := Tryz.isAgg9
  z9 := Tryz.sizeOf9
  v9 := Tryz.zeroValue9
  t31 := Tryz.underlying26
  a31 := Tryz.isAgg26
  z31 := Tryz.sizeOf26
  v31 := Tryz.zeroValue26 }
open Go.RowKit Go.Lib Go.Sort in
theorem Tryz.slices_Compact_string (blk off cap : Nat) (zs : List (List UInt8)) (w : World) (hH : Holds encStr w blk off zs.toArray) (hsz : zs.length ≤ 9223372036854775807) (hcap : zs.length ≤ cap) :
    Calls Tryz.prog 204 #[.slice (some ⟨blk, off, none⟩) zs.length cap] w fun e w' => e = .returned (.slice (some ⟨blk, off, none⟩) (Lib.compact zs).length cap) ∧ ∃ q, w' = putRow encStr (Sort.ahead w q) blk off (Lib.compact zs ++ List.replicate (zs.length - (Lib.compact zs).length) []).toArray := Any.slices_Compact_string Tryz.lays194 blk off cap zs w hH hsz hcap
open Go.RowKit Go.Lib Go.Sort in
theorem Tryz.slices_Compact_string_empty (a : Option Addr) (cap : Nat) (w : World) :
    Calls Tryz.prog 204 #[.slice a 0 cap] w fun e w' => e = .returned (.slice a 0 cap) ∧ w' = w := Any.slices_Compact_string_empty Tryz.lays194 a cap w
open Go.RowKit Go.Sort in
theorem Tryz.slices_Sort_string_none (p : Option Addr) (cap : Nat) (w : World) :
    Calls Tryz.prog 55 #[.slice p 0 cap] w fun e w' => e = .returned (.tuple #[]) ∧ w' = w := Any.slices_Sort_string_none Tryz.lays190 p cap w
end Go.Proofs
namespace Go.Proofs
open Go.Shelf
def Tryz.laysGrowNamed_ren : Go.Shelf.Ren := ⟨fun | 4 => 239 | n => n, fun | 22 => 49 | 25 => 62 | 3 => 3 | 4 => 4 | 9 => 9 | 20 => 20 | 0 => 0 | n => n, fun | n => n⟩
theorem Tryz.laysGrowNamed : Go.Proofs.Lays8.n4 Tryz.prog Tryz.laysGrowNamed_ren := {
  mixed := by kernel_rfl
  f4 := ⟨Tryz.f239.name, by decide, Tryz.func239.trans (congrArg some (by kernel_rfl))⟩
  t0 := Tryz.underlying0
  a0 := Tryz.isAgg0
  z0 := Tryz.sizeOf0
  v0 := Tryz.zeroValue0
  t3 := Tryz.underlying3
  a3 := Tryz.isAgg3
  z3 := Tryz.sizeOf3
  v3 := Tryz.zeroValue3
  t4 := Tryz.underlying4
  a4 := Tryz.isAgg4
  z4 := Tryz.sizeOf4
  v4 := Tryz.zeroValue4
  t9 := Tryz.underlying9
  a9 := Tryz.isAgg9
  z9 := Tryz.sizeOf9
  v9 := Tryz.zeroValue9
  t20 := Tryz.underlying20
  a20 := Tryz.isAgg20
  z20 := Tryz.sizeOf20
  v20 := Tryz.zeroValue20
  t22 := Tryz.underlying49
  a22 := Tryz.isAgg49
  z22 := Tryz.sizeOf49
  v22 := Tryz.zeroValue49 }
def Tryz.laysGrowIface_ren : Go.Shelf.Ren := ⟨fun | 4 => 224 | n => n, fun | 22 => 47 | 25 => 51 | 3 => 3 | 4 => 4 | 9 => 9 | 20 => 20 | 0 => 0 | n => n, fun | n => n⟩
theorem Tryz.laysGrowIface : Go.Proofs.Lays8.n4 Tryz.prog Tryz.laysGrowIface_ren := {
  mixed := by kernel_rfl
  f4 := ⟨Tryz.f224.name, by decide, Tryz.func224.trans (congrArg some (by kernel_rfl))⟩
  t0 := Tryz.underlying0
  a0 := Tryz.isAgg0
  z0 := Tryz.sizeOf0
  v0 := Tryz.zeroValue0
  t3 := Tryz.underlying3
  a3 := Tryz.isAgg3
  z3 := Tryz.sizeOf3
  v3 := Tryz.zeroValue3
  t4 := Tryz.underlying4
  a4 := Tryz.isAgg4
  z4 := Tryz.sizeOf4
  v4 := Tryz.zeroValue4
  t9 := Tryz.underlying9
  a9 := Tryz.isAgg9
  z9 := Tryz.sizeOf9
  v9 := Tryz.zeroValue9
  t20 := Tryz.underlying20
  a20 := Tryz.isAgg20
  z20 := Tryz.sizeOf20
  v20 := Tryz.zeroValue20
  t22 := Tryz.underlying47
  a22 := Tryz.isAgg47
  z22 := Tryz.sizeOf47
  v22 := Tryz.zeroValue47 }
end Go.Proofs
namespace Go.Proofs.YtjeldfipipkfiaaGreatDoor
open Go.RowKit Go.Shelf Go.Sort
theorem sort_c (blk off cap : Nat) (ss : List (List UInt8)) (w : World) (hH : Holds encStr w blk off ss.toArray) (hblk : blk < w.heap.size) (hsz : ss.length < 4611686018427387904) :
    Calls Tryz.prog 55 #[.slice (some ⟨blk, off, none⟩) ss.length cap] w fun e w' => e = .returned (.tuple #[]) ∧ ∃ n os, w' = grow (putRow encStr (Sort.ahead w n) blk off (ss.mergeSort fun x y => decide (x ≤ y)).toArray) os :=
  Any.slices_Sort_string Tryz.lays190 blk off cap ss w hH hblk hsz
theorem sort0_c (p : Option Addr) (cap : Nat) (w : World) : Calls Tryz.prog 55 #[.slice p 0 cap] w fun e w' => e = .returned (.tuple #[]) ∧ w' = w := Any.slices_Sort_string_none Tryz.lays190 p cap w
theorem comp_c (blk off cap : Nat) (zs : List (List UInt8)) (w : World) (hH : Holds encStr w blk off zs.toArray) (hsz : zs.length ≤ 9223372036854775807) (hcap : zs.length ≤ cap) :
    Calls Tryz.prog 204 #[.slice (some ⟨blk, off, none⟩) zs.length cap] w fun e w' => e = .returned (.slice (some ⟨blk, off, none⟩) (Lib.compact zs).length cap) ∧ ∃ q, w' = putRow encStr (Sort.ahead w q) blk off (Lib.compact zs ++ List.replicate (zs.length - (Lib.compact zs).length) []).toArray :=
  Any.slices_Compact_string Tryz.lays194 blk off cap zs w hH hsz hcap
theorem comp0_c (p : Option Addr) (cap : Nat) (w : World) : Calls Tryz.prog 204 #[.slice p 0 cap] w fun e w' => e = .returned (.slice p 0 cap) ∧ w' = w := Any.slices_Compact_string_empty Tryz.lays194 p cap w
theorem growRoomNamed (base : Option Addr) (l c n : Nat) (w : World) (hlc : l ≤ c) (hc63 : c ≤ 9223372036854775807) (hn63 : n ≤ 9223372036854775807) (hroom : l + n ≤ c) :
    Calls Tryz.prog 239 #[.slice base l c, .int .i64 n] w fun e w' => e = .returned (.slice base l c) ∧ w' = w := Any8.slices_Grow_room Tryz.laysGrowNamed base l c n w hlc hc63 hn63 hroom
theorem growNilNamed (i0 : TypeInfo) (z : Value) (hi0 : (Tryz.prog).info? 62 = some i0) (hz0 : i0.zero = some z) (hs0 : 0 < i0.size) (hb : i0.bytes ≤ 200) (n : Nat) (w : World) (h0 : 0 < n) (hn : n ≤ 1000000) :
    Calls Tryz.prog 239 #[.slice none 0 0, .int .i64 n] w fun e w' =>
      e = .returned (.slice (some ⟨w.heap.size, 0, none⟩) 0 (grownCap w (0 + n) 0 62)) ∧
      w' = w.drew.alloc (.cells (#[] ++ Builtin.zeroCells z.cells (0 + n - 0) ++ Builtin.zeroCells z.cells (grownCap w (0 + n) 0 62 - (0 + n))) 62) :=
  Any8.slices_Grow_grow Tryz.laysGrowNamed i0 z hi0 hz0 hs0 none 0 0 n [] w (Nat.le_refl _) (by omega) (Nat.le_trans (Nat.mul_le_mul (Nat.le_refl _) hb) (by omega)) (by omega) (by simp) (fun _ => rfl) (fun a h => by cases h)
theorem growRoomIface (base : Option Addr) (l c n : Nat) (w : World) (hlc : l ≤ c) (hc63 : c ≤ 9223372036854775807) (hn63 : n ≤ 9223372036854775807) (hroom : l + n ≤ c) :
    Calls Tryz.prog 224 #[.slice base l c, .int .i64 n] w fun e w' => e = .returned (.slice base l c) ∧ w' = w := Any8.slices_Grow_room Tryz.laysGrowIface base l c n w hlc hc63 hn63 hroom
theorem growNilIface (i0 : TypeInfo) (z : Value) (hi0 : (Tryz.prog).info? 51 = some i0) (hz0 : i0.zero = some z) (hs0 : 0 < i0.size) (hb : i0.bytes ≤ 200) (n : Nat) (w : World) (h0 : 0 < n) (hn : n ≤ 1000000) :
    Calls Tryz.prog 224 #[.slice none 0 0, .int .i64 n] w fun e w' =>
      e = .returned (.slice (some ⟨w.heap.size, 0, none⟩) 0 (grownCap w (0 + n) 0 51)) ∧
      w' = w.drew.alloc (.cells (#[] ++ Builtin.zeroCells z.cells (0 + n - 0) ++ Builtin.zeroCells z.cells (grownCap w (0 + n) 0 51 - (0 + n))) 51) :=
  Any8.slices_Grow_grow Tryz.laysGrowIface i0 z hi0 hz0 hs0 none 0 0 n [] w (Nat.le_refl _) (by omega) (Nat.le_trans (Nat.mul_le_mul (Nat.le_refl _) hb) (by omega)) (by omega) (by simp) (fun _ => rfl) (fun a h => by cases h)
end Go.Proofs.YtjeldfipipkfiaaGreatDoor
namespace Go.Proofs.YtjeldfipipkfiaaGreatDoor
set_option linter.unusedSimpArgs false
set_option linter.unusedVariables false
theorem cover_iff (r : Ty → Ty → Bool) (a : Ty) : ∀ (ns : List ByteArray) (ss : List Ty), coverL r a ns ss = true ↔ ∀ k (h : k < ns.length) (h' : k < ss.length), memB ns[k] a.names = true ∧ r (ofT a ns[k]) ss[k] = true
  | [], _ => by simp [coverL]
  | _ :: _, [] => by simp [coverL]
  | n :: ns, s :: ss => by
    rw [coverL, Bool.and_eq_true, Bool.and_eq_true, cover_iff r a ns ss]
    constructor
    · rintro ⟨⟨h1, h2⟩, h3⟩ k h h'
      cases k with
      | zero => exact ⟨h1, h2⟩
      | succ k => exact h3 k (by simpa using h) (by simpa using h')
    · intro h
      exact ⟨h 0 (by simp) (by simp), fun k hk hk' => h (k + 1) (by simpa using hk) (by simpa using hk')⟩
theorem first_get : ∀ {l : List ByteArray} {s : ByteArray} (h : memB s l = true), l[firstOf l s]'(firstOf_lt h) = s
  | [], _, h => by simp [memB] at h
  | x :: l, s, h => by
    by_cases e : x = s
    · simp [firstOf, e]
    · have h' : memB s l = true := by simpa [memB, e] using h
      have := first_get h'
      simp only [firstOf, if_neg e, List.getElem_cons_succ]
      exact this
theorem rise_inj {l : List ByteArray} (h : riseB l = true) {i j : Nat} (hi : i < l.length) (hj : j < l.length) (e : l[i] = l[j]) : i = j := by
  rcases Nat.lt_trichotomy i j with hij | hij | hij
  · have := rise_lt h i j hij hj
    rw [e, ltB_irrefl] at this
    exact absurd this (by decide)
  · exact hij
  · have := rise_lt h j i hij hi
    rw [e, ltB_irrefl] at this
    exact absurd this (by decide)
theorem mem_at {l : List ByteArray} {i : Nat} (hi : i < l.length) : memB l[i] l = true := (memB_iff _ _).2 (List.getElem_mem hi)
theorem first_at {l : List ByteArray} (h : riseB l = true) {i : Nat} (hi : i < l.length) : firstOf l l[i] = i :=
  rise_inj h (firstOf_lt (mem_at hi)) hi (first_get (mem_at hi))
theorem ofT_idx {t : Ty} (h : RowsOk t) {i : Nat} (hi : i < t.names.length) : ofT t t.names[i] = t.subs[i]'(Nat.lt_of_lt_of_le hi h.len) := by
  have hl := h.len
  rw [ofT, if_pos (mem_at hi), first_at h.rise hi, getD_at (by omega)]
theorem subF_kind {n : Nat} {a b : Ty} (h : subF (n + 1) a b = true) : a.kind = b.kind := by
  by_cases hk : a.kind = b.kind
  · exact hk
  · rw [subF, if_neg hk] at h
    exact absurd h (by decide)
theorem args_iff (r : Ty → Ty → Bool) (xs ys : List Ty) (n : Nat) : argsB r xs ys n = true ↔ ∀ i, i < n → r (ys.getD i zeroTy) (xs.getD i zeroTy) = true := by
  simp [argsB, List.all_eq_true]
theorem func_iff (r : Ty → Ty → Bool) (xs ys : List Ty) : funcB r xs ys = true ↔ xs.length = ys.length ∧ r (xs.getD (xs.length - 1) zeroTy) (ys.getD (xs.length - 1) zeroTy) = true ∧ ∀ i, i < xs.length - 1 → r (ys.getD i zeroTy) (xs.getD i zeroTy) = true := by
  rw [funcB, Bool.and_eq_true, Bool.and_eq_true, decide_eq_true_eq, args_iff]
theorem deep_le {t s : Ty} {n : Nat} (h : deepT t ≤ n + 1) (hs : s ∈ t.subs) : deepT s ≤ n := by
  have := deep_child hs
  omega
theorem getD_mem {l : List Ty} {i : Nat} (h : i < l.length) : l.getD i zeroTy ∈ l := by rw [getD_at h]; exact List.getElem_mem h
theorem sub_refl : ∀ (n : Nat) (a : Ty), mayT a = true → deepT a ≤ n → subF n a a = true
  | 0, a, _, hd => by have := deep_bound a; omega
  | n + 1, a, hm, hd => by
    have IH : ∀ s, s ∈ a.subs → subF n s s = true := fun s hs => sub_refl n s (may_child hm hs) (deep_le hd hs)
    rw [subF, if_pos rfl]
    by_cases h4 : a.kind = 4
    · rw [if_pos h4]
      exact IH _ (getD_mem (by rw [may_list hm h4]; decide))
    rw [if_neg h4]
    by_cases h5 : a.kind = 5
    · rw [if_pos h5, cover_iff]
      intro k h h'
      have hr := may_rows hm (.inl h5)
      refine ⟨mem_at h, ?_⟩
      rw [ofT_idx hr h]
      exact IH _ (List.getElem_mem _)
    rw [if_neg h5]
    by_cases h6 : a.kind = 6
    · rw [if_pos h6, cover_iff]
      intro k h h'
      have hr := may_rows hm (.inr h6)
      refine ⟨mem_at h, ?_⟩
      rw [ofT_idx hr h]
      exact IH _ (List.getElem_mem _)
    rw [if_neg h6]
    by_cases h7 : a.kind = 7
    · rw [if_pos h7, func_iff]
      have := may_func hm h7
      exact ⟨rfl, IH _ (getD_mem (by omega)), fun i hi => IH _ (getD_mem (by omega))⟩
    rw [if_neg h7]
    exact (alike_iff a a).2 rfl
theorem sub_trans : ∀ (n : Nat) (a b c : Ty), mayT a = true → mayT b = true → mayT c = true → deepT a ≤ n → deepT b ≤ n → deepT c ≤ n → subF n a b = true → subF n b c = true → subF n a c = true
  | 0, a, _, _, _, _, _, hd, _, _, _, _ => by have := deep_bound a; omega
  | n + 1, a, b, c, ma, mb, mc, da, db, dc, hab, hbc => by
    have IH : ∀ x y z, x ∈ a.subs → y ∈ b.subs → z ∈ c.subs → subF n x y = true → subF n y z = true → subF n x z = true := fun x y z hx hy hz =>
      sub_trans n x y z (may_child ma hx) (may_child mb hy) (may_child mc hz) (deep_le da hx) (deep_le db hy) (deep_le dc hz)
    have IR : ∀ x y z, x ∈ a.subs → y ∈ b.subs → z ∈ c.subs → subF n z y = true → subF n y x = true → subF n z x = true := fun x y z hx hy hz =>
      sub_trans n z y x (may_child mc hz) (may_child mb hy) (may_child ma hx) (deep_le dc hz) (deep_le db hy) (deep_le da hx)
    have k1 := subF_kind hab
    have k2 := subF_kind hbc
    rw [subF, if_pos k1] at hab
    rw [subF, if_pos k2] at hbc
    rw [subF, if_pos (k1.trans k2)]
    by_cases h4 : a.kind = 4
    · rw [if_pos h4] at hab ⊢
      rw [if_pos (k1 ▸ h4)] at hbc
      exact IH _ _ _ (getD_mem (by rw [may_list ma h4]; decide)) (getD_mem (by rw [may_list mb (k1 ▸ h4)]; decide)) (getD_mem (by rw [may_list mc (k2 ▸ k1 ▸ h4)]; decide)) hab hbc
    rw [if_neg h4] at hab ⊢
    rw [if_neg (fun e => h4 (k1.trans e))] at hbc
    by_cases h5 : a.kind = 5
    · rw [if_pos h5, cover_iff] at hab ⊢
      rw [if_pos (k1 ▸ h5), cover_iff] at hbc
      have ra := may_rows ma (.inl h5)
      have rb := may_rows mb (.inl (k1 ▸ h5))
      intro k h h'
      obtain ⟨m1, s1⟩ := hbc k h h'
      have hj := firstOf_lt m1
      have hb := rb.len
      obtain ⟨m2, s2⟩ := hab (firstOf b.names c.names[k]) hj (by omega)
      rw [first_get m1] at m2 s2
      rw [ofT, if_pos m1, getD_at (by omega)] at s1
      exact ⟨m2, IH _ _ _ (ofT_mem m2 ra.len) (List.getElem_mem _) (List.getElem_mem _) s2 s1⟩
    rw [if_neg h5] at hab ⊢
    rw [if_neg (fun e => h5 (k1.trans e))] at hbc
    by_cases h6 : a.kind = 6
    · rw [if_pos h6, cover_iff] at hab ⊢
      rw [if_pos (k1 ▸ h6), cover_iff] at hbc
      have rc := may_rows mc (.inr (k2 ▸ k1 ▸ h6))
      have rb := may_rows mb (.inr (k1 ▸ h6))
      intro k h h'
      obtain ⟨m1, s1⟩ := hab k h h'
      have hj := firstOf_lt m1
      have hb := rb.len
      obtain ⟨m2, s2⟩ := hbc (firstOf b.names a.names[k]) hj (by omega)
      rw [first_get m1] at m2 s2
      rw [ofT, if_pos m1, getD_at (by omega)] at s1
      exact ⟨m2, IH _ _ _ (List.getElem_mem _) (List.getElem_mem _) (ofT_mem m2 rc.len) s1 s2⟩
    rw [if_neg h6] at hab ⊢
    rw [if_neg (fun e => h6 (k1.trans e))] at hbc
    by_cases h7 : a.kind = 7
    · rw [if_pos h7, func_iff] at hab ⊢
      rw [if_pos (k1 ▸ h7), func_iff] at hbc
      obtain ⟨e1, l1, a1⟩ := hab
      obtain ⟨e2, l2, a2⟩ := hbc
      have f1 := may_func ma h7
      rw [← e1] at l2 a2
      exact ⟨e1.trans e2, IH _ _ _ (getD_mem (by omega)) (getD_mem (by omega)) (getD_mem (by omega)) l1 l2, fun i hi => IR _ _ _ (getD_mem (by omega)) (getD_mem (by omega)) (getD_mem (by omega)) (a2 i hi) (a1 i hi)⟩
    rw [if_neg h7] at hab ⊢
    rw [if_neg (fun e => h7 (k1.trans e))] at hbc
    rw [alike_iff] at hab hbc ⊢
    exact hab.trans hbc
theorem rise_tail {x : ByteArray} {l : List ByteArray} (h : riseB (x :: l) = true) : riseB l = true := by
  cases l with
  | nil => rfl
  | cons y l =>
    rw [riseB, Bool.and_eq_true] at h
    exact h.2
theorem rise_head {x : ByteArray} {l : List ByteArray} (h : riseB (x :: l) = true) {y : ByteArray} (hy : y ∈ l) : ltB x y = true := by
  obtain ⟨i, hi, rfl⟩ := List.getElem_of_mem hy
  exact rise_lt h 0 (i + 1) (by omega) (by simpa using hi)
theorem rise_eq : ∀ {l m : List ByteArray}, riseB l = true → riseB m = true → (∀ s, s ∈ l ↔ s ∈ m) → l = m
  | [], [], _, _, _ => rfl
  | [], y :: m, _, _, h => absurd ((h y).2 (by simp)) (by simp)
  | x :: l, [], _, _, h => absurd ((h x).1 (by simp)) (by simp)
  | x :: l, y :: m, hl, hm, h => by
    have e : x = y := by
      rcases List.mem_cons.1 ((h x).1 (by simp)) with e | hx
      · exact e
      · rcases List.mem_cons.1 ((h y).2 (by simp)) with e | hy
        · exact e.symm
        · have h1 := rise_head hm hx
          have h2 := rise_head hl hy
          have := ltB_trans h1 h2
          rw [ltB_irrefl] at this
          exact absurd this (by decide)
    subst e
    rw [rise_eq (rise_tail hl) (rise_tail hm) fun s => ?_]
    constructor
    · intro hs
      rcases List.mem_cons.1 ((h s).1 (List.mem_cons_of_mem _ hs)) with e | hs'
      · subst e
        have := rise_head hl hs
        rw [ltB_irrefl] at this
        exact absurd this (by decide)
      · exact hs'
    · intro hs
      rcases List.mem_cons.1 ((h s).2 (List.mem_cons_of_mem _ hs)) with e | hs'
      · subst e
        have := rise_head hm hs
        rw [ltB_irrefl] at this
        exact absurd this (by decide)
      · exact hs'
theorem empty_of {x : ByteArray} (h : x.toList.isEmpty = true) : x = ⟨#[]⟩ := by
  rw [ByteArray.toList_eq] at h
  cases x with
  | mk d => simp at h; rw [h]
theorem may_eq {a b : Ty} (ma : mayT a = true) (mb : mayT b = true) (hk : a.kind = b.kind) (h8 : ¬ a.kind = 8) (h9 : ¬ a.kind = 9) (hn : a.names = b.names) (hs : a.subs = b.subs) : a = b := by
  have sa := may_shape ma
  have sb := may_shape mb
  rw [shapeB, Bool.and_eq_true, Bool.and_eq_true, bareT, if_neg h8, if_neg h9] at sa
  rw [shapeB, Bool.and_eq_true, Bool.and_eq_true, bareT, if_neg (fun e => h8 (hk.trans e)), if_neg (fun e => h9 (hk.trans e))] at sb
  have ea := sa.1.1
  have eb := sb.1.1
  simp only [emptyB, Bool.and_eq_true, beq_iff_eq] at ea eb
  rw [a.eta, b.eta, hk, hn, hs, empty_of ea.1.1.1, empty_of eb.1.1.1, ea.1.1.2, eb.1.1.2, empty_of ea.1.2, empty_of eb.1.2, empty_of ea.2, empty_of eb.2]
theorem may_nonames {a : Ty} (ma : mayT a = true) (h : a.kind = 4 ∨ a.kind = 7) : a.names = [] := by
  have := may_kind ma
  rcases h with h | h
  · simp [kindB, h] at this
    exact this.2
  · simp [kindB, h] at this
    exact this.2
theorem may_same {a : Ty} (ma : mayT a = true) (h : a.kind = 5 ∨ a.kind = 6) : a.subs.length = a.names.length := by
  have := may_kind ma
  rcases h with h | h
  · simp [kindB, h] at this
    omega
  · simp [kindB, h] at this
    omega
theorem sub_anti : ∀ (n : Nat) (a b : Ty), mayT a = true → mayT b = true → deepT a ≤ n → deepT b ≤ n → subF n a b = true → subF n b a = true → a = b
  | 0, a, _, _, _, hd, _, _, _ => by have := deep_bound a; omega
  | n + 1, a, b, ma, mb, da, db, hab, hba => by
    have IH : ∀ x y, x ∈ a.subs → y ∈ b.subs → subF n x y = true → subF n y x = true → x = y := fun x y hx hy =>
      sub_anti n x y (may_child ma hx) (may_child mb hy) (deep_le da hx) (deep_le db hy)
    have k1 := subF_kind hab
    rw [subF, if_pos k1] at hab
    rw [subF, if_pos k1.symm] at hba
    by_cases h4 : a.kind = 4
    · rw [if_pos h4] at hab
      rw [if_pos (k1 ▸ h4)] at hba
      have la := may_list ma h4
      have lb := may_list mb (k1 ▸ h4)
      have e := IH _ _ (getD_mem (by omega)) (getD_mem (by omega)) hab hba
      refine may_eq ma mb k1 (by omega) (by omega) ?_ ?_
      · rw [may_nonames ma (.inl h4), may_nonames mb (.inl (k1 ▸ h4))]
      · rw [getD_at (by omega), getD_at (by omega)] at e
        refine List.ext_getElem (by omega) fun i h1 h2 => ?_
        obtain rfl : i = 0 := by omega
        exact e
    rw [if_neg h4] at hab
    rw [if_neg (fun e => h4 (k1.trans e))] at hba
    by_cases h5 : a.kind = 5
    · rw [if_pos h5, cover_iff] at hab
      rw [if_pos (k1 ▸ h5), cover_iff] at hba
      have ra := may_rows ma (.inl h5)
      have rb := may_rows mb (.inl (k1 ▸ h5))
      have la := may_same ma (.inl h5)
      have lb := may_same mb (.inl (k1 ▸ h5))
      have hn : a.names = b.names := rise_eq ra.rise rb.rise fun s => by
        constructor
        · intro hs
          obtain ⟨i, hi, rfl⟩ := List.getElem_of_mem hs
          exact (memB_iff _ _).1 (hba i hi (by omega)).1
        · intro hs
          obtain ⟨i, hi, rfl⟩ := List.getElem_of_mem hs
          exact (memB_iff _ _).1 (hab i hi (by omega)).1
      have hll : a.names.length = b.names.length := by rw [hn]
      refine may_eq ma mb k1 (by omega) (by omega) hn (List.ext_getElem (by omega) fun i h1 h2 => ?_)
      have s1 := (hab i (by omega) h2).2
      have s2 := (hba i (by omega) h1).2
      have e1 : b.names[i]'(by omega) = a.names[i]'(by omega) := by simp only [hn]
      rw [e1, ofT_idx ra (by omega)] at s1
      rw [← e1, ofT_idx rb (by omega)] at s2
      exact IH _ _ (List.getElem_mem _) (List.getElem_mem _) s1 s2
    rw [if_neg h5] at hab
    rw [if_neg (fun e => h5 (k1.trans e))] at hba
    by_cases h6 : a.kind = 6
    · rw [if_pos h6, cover_iff] at hab
      rw [if_pos (k1 ▸ h6), cover_iff] at hba
      have ra := may_rows ma (.inr h6)
      have rb := may_rows mb (.inr (k1 ▸ h6))
      have la := may_same ma (.inr h6)
      have lb := may_same mb (.inr (k1 ▸ h6))
      have hn : a.names = b.names := rise_eq ra.rise rb.rise fun s => by
        constructor
        · intro hs
          obtain ⟨i, hi, rfl⟩ := List.getElem_of_mem hs
          exact (memB_iff _ _).1 (hab i hi (by omega)).1
        · intro hs
          obtain ⟨i, hi, rfl⟩ := List.getElem_of_mem hs
          exact (memB_iff _ _).1 (hba i hi (by omega)).1
      have hll : a.names.length = b.names.length := by rw [hn]
      refine may_eq ma mb k1 (by omega) (by omega) hn (List.ext_getElem (by omega) fun i h1 h2 => ?_)
      have s1 := (hab i (by omega) h1).2
      have s2 := (hba i (by omega) h2).2
      have e1 : b.names[i]'(by omega) = a.names[i]'(by omega) := by simp only [hn]
      rw [← e1, ofT_idx rb (by omega)] at s1
      rw [e1, ofT_idx ra (by omega)] at s2
      exact IH _ _ (List.getElem_mem _) (List.getElem_mem _) s1 s2
    rw [if_neg h6] at hab
    rw [if_neg (fun e => h6 (k1.trans e))] at hba
    by_cases h7 : a.kind = 7
    · rw [if_pos h7, func_iff] at hab
      rw [if_pos (k1 ▸ h7), func_iff] at hba
      obtain ⟨e1, l1, a1⟩ := hab
      obtain ⟨e2, l2, a2⟩ := hba
      rw [e2] at l2 a2
      have f1 := may_func ma h7
      refine may_eq ma mb k1 (by omega) (by omega) ?_ (List.ext_getElem e1 fun i h1 h2 => ?_)
      · rw [may_nonames ma (.inr h7), may_nonames mb (.inr (k1 ▸ h7))]
      · by_cases hi : i < a.subs.length - 1
        · have := IH _ _ (getD_mem h1) (getD_mem h2) (a2 i hi) (a1 i hi)
          rwa [getD_at h1, getD_at h2] at this
        · obtain rfl : i = a.subs.length - 1 := by omega
          have := IH _ _ (getD_mem h1) (getD_mem h2) l1 l2
          rwa [getD_at h1, getD_at h2] at this
    rw [if_neg h7] at hab
    exact (alike_iff a b).1 hab
end Go.Proofs.YtjeldfipipkfiaaGreatDoor
namespace Go.Proofs.YtjeldfipipkfiaaGreatDoor
open Go.RowKit Go.Sort
set_option linter.unusedSimpArgs false
set_option linter.unusedVariables false
def uL (l : List ByteArray) : List (List UInt8) := l.map (·.data.toList)
def uB (l : List (List UInt8)) : List ByteArray := l.map fun x => ⟨x.toArray⟩
theorem enc_uL (l : List ByteArray) : (uL l).map encStr = l.map Value.string := Lib.map_encStr l
theorem uL_uB (l : List (List UInt8)) : uL (uB l) = l := by
  unfold uL uB
  rw [List.map_map]
  exact (List.map_congr_left (fun x _ => by simp)).trans (List.map_id _)
theorem enc_uB (l : List (List UInt8)) : (uB l).map Value.string = l.map encStr := by rw [← enc_uL, uL_uB]
theorem uL_len (l : List ByteArray) : (uL l).length = l.length := List.length_map ..
theorem uB_len (l : List (List UInt8)) : (uB l).length = l.length := List.length_map ..
theorem mem_uL {x : ByteArray} {l : List ByteArray} : x.data.toList ∈ uL l ↔ x ∈ l := by
  constructor
  · intro h
    obtain ⟨y, hy, e⟩ := List.mem_map.1 h
    have : y = x := by cases x; cases y; simp_all
    exact this ▸ hy
  · exact fun h => List.mem_map.2 ⟨x, h, rfl⟩
theorem mem_uB {x : ByteArray} {l : List (List UInt8)} : x ∈ uB l ↔ x.data.toList ∈ l := by rw [← mem_uL, uL_uB]
def sortN (l : List ByteArray) : List ByteArray := uB ((uL l).mergeSort fun x y => decide (x ≤ y))
def compN (l : List ByteArray) : List ByteArray := uB (Lib.compact (uL l))
def unionN (l l' : List ByteArray) : List ByteArray := compN (sortN (l ++ l'))
theorem sortN_len (l : List ByteArray) : (sortN l).length = l.length := by rw [sortN, uB_len, List.length_mergeSort, uL_len]
theorem compN_len (l : List ByteArray) : (compN l).length ≤ l.length := by rw [compN, uB_len, ← uL_len l]; exact Lib.compact_length_le _
theorem unionN_len (l l' : List ByteArray) : (unionN l l').length ≤ l.length + l'.length := by
  have := compN_len (sortN (l ++ l'))
  rw [sortN_len, List.length_append] at this
  exact this
theorem compact_mem (zs : List (List UInt8)) (x : List UInt8) : x ∈ Lib.compact zs ↔ x ∈ zs := by
  unfold Lib.compact Lib.compactUpTo
  constructor
  · intro h
    obtain ⟨j, hj, rfl⟩ := List.mem_map.1 h
    have hj' := List.mem_range.1 (List.mem_filter.1 hj).1
    simp [hj']
  · intro h
    obtain ⟨i, hi, rfl⟩ := List.getElem_of_mem h
    have key : ∀ i (hi : i < zs.length), zs[i] ∈ ((List.range zs.length).filter (Lib.keeps zs.toArray)).map (zs.toArray[·]!) := by
      intro i
      induction i with
      | zero =>
        intro hi
        exact List.mem_map.2 ⟨0, List.mem_filter.2 ⟨List.mem_range.2 hi, by simp [Lib.keeps]⟩, by simp [hi]⟩
      | succ i ih =>
        intro hi
        by_cases e : zs[i + 1] = zs[i]
        · rw [e]; exact ih (by omega)
        · refine List.mem_map.2 ⟨i + 1, List.mem_filter.2 ⟨List.mem_range.2 hi, ?_⟩, by simp [hi]⟩
          simp [Lib.keeps, hi, show i < zs.length by omega, e]
    exact key i hi
theorem compact_lt (zs : List (List UInt8)) (h : zs.Pairwise fun x y => x ≤ y) : (Lib.compact zs).Pairwise fun x y => x < y := by
  unfold Lib.compact Lib.compactUpTo
  rw [List.pairwise_map]
  refine List.Pairwise.imp_of_mem ?_ (List.Pairwise.filter _ List.pairwise_lt_range)
  intro i j hi hj hij
  have hi' := List.mem_range.1 (List.mem_filter.1 hi).1
  have hj' := List.mem_range.1 (List.mem_filter.1 hj).1
  have hk := (List.mem_filter.1 hj).2
  have hne : zs[j] ≠ zs[j - 1] := by
    simp [Lib.keeps, hj', show j - 1 < zs.length by omega] at hk
    rcases hk with hk | hk
    · omega
    · exact hk
  have hle : zs[j - 1] ≤ zs[j] := List.pairwise_iff_getElem.1 h (j - 1) j (by omega) hj' (by omega)
  have h1 : zs[j - 1] < zs[j] := Std.lt_of_le_of_ne hle (Ne.symm hne)
  have h2 : zs[i] ≤ zs[j - 1] := by
    by_cases e : i = j - 1
    · subst e; exact List.le_refl _
    · exact List.pairwise_iff_getElem.1 h i (j - 1) hi' (by omega) (by omega)
  simp only [List.getElem!_toArray, List.getElem!_eq_getElem?_getD, List.getElem?_eq_getElem hi', List.getElem?_eq_getElem hj', Option.getD_some]
  exact List.lt_of_le_of_lt h2 h1
theorem rise_of_lt : ∀ (l : List (List UInt8)), l.Pairwise (fun x y => x < y) → riseB (uB l) = true := by
  intro l h
  rw [riseB_iff]
  intro i hi
  have hl : (uB l).length = l.length := uB_len l
  have h1 := List.pairwise_iff_getElem.1 h i (i + 1) (by omega) (by omega) (by omega)
  have e : ∀ j (hj : j < (uB l).length), (uB l)[j].toList = l[j]'(by omega) := fun j hj => by
    simp [uB]
  rw [ltB, e, e, bytesLess_eq]
  simpa using h1
theorem unionN_rise (l l' : List ByteArray) : riseB (unionN l l') = true := by
  refine rise_of_lt _ (compact_lt _ ?_)
  rw [sortN, uL_uB]
  have := List.pairwise_mergeSort (le := fun x y : List UInt8 => decide (x ≤ y)) (fun a b c h1 h2 => by simp only [decide_eq_true_eq] at *; exact List.le_trans h1 h2) (fun a b => by
    rcases List.le_total a b with h | h <;> simp [h]) (uL (l ++ l'))
  exact this.imp fun h => by simpa using h
theorem unionN_mem (l l' : List ByteArray) (x : ByteArray) : x ∈ unionN l l' ↔ x ∈ l ∨ x ∈ l' := by
  rw [unionN, compN, mem_uB, compact_mem, sortN, uL_uB, List.mem_mergeSort, mem_uL, List.mem_append]
theorem sortU_c {base n : Nat} {v : Value} {l : List ByteArray} {w w0 : World} (h : w.ownsRow base 9 1 v n (l.map Value.string)) (hb : Below base w0 w) (hn : n ≤ 1000000) :
    Calls Tryz.prog 55 #[v] w fun e w' => e = .returned (.tuple #[]) ∧ w'.ownsRow base 9 1 v n ((sortN l).map Value.string) ∧ Below base w0 w' := by
  by_cases hv : v = .slice none 0 0
  · subst hv
    refine (sort0_c none 0 w).mono ?_
    rintro e w' ⟨rfl, rfl⟩
    have h0 : n = 0 := by
      rcases h.2 with ⟨-, h0⟩ | ⟨g, cap, cur, h0, -⟩
      · exact h0
      · simp at h0
    have hl : l = [] := by have := h.1; simp [h0] at this; exact this
    subst hl
    exact ⟨rfl, by rw [sortN]; simpa [uL, uB] using h, hb⟩
  · rw [← enc_uL] at h
    obtain ⟨g, cap, rfl, hbg, hgl, hnc, hcm, hlen, hH⟩ := Lib.holds_of_ownsRow h hv
    subst hlen
    refine (sort_c g 0 cap (uL l) w hH hgl (by omega)).mono ?_
    rintro e w' ⟨rfl, nn, os, rfl⟩
    obtain ⟨-, ⟨h0, -⟩ | ⟨g', cap', cur, h0, h1, h2, h3, h4, h5, -⟩⟩ := h
    · cases h0
    cases h0
    refine ⟨rfl, ?_, hb.grown (grownBy_sorted _) (by omega) (fun j hj => by cases hj; exact hbg)⟩
    rw [sortN, enc_uB]
    exact ownsRow_sorted (List.length_mergeSort _) hbg h2 h3 h4 h5
theorem compU_c {base n : Nat} {v : Value} {l : List ByteArray} {w w0 : World} (h : w.ownsRow base 9 1 v n (l.map Value.string)) (hb : Below base w0 w) (hn : n ≤ 1000000) :
    Calls Tryz.prog 204 #[v] w fun e w' => ∃ v', e = .returned v' ∧ w'.ownsRow base 9 1 v' (compN l).length ((compN l).map Value.string) ∧ Below base w0 w' := by
  by_cases hv : v = .slice none 0 0
  · subst hv
    refine (comp0_c none 0 w).mono ?_
    rintro e w' ⟨rfl, rfl⟩
    have h0 : n = 0 := by
      rcases h.2 with ⟨-, h0⟩ | ⟨g, cap, cur, h0, -⟩
      · exact h0
      · simp at h0
    have hl : l = [] := by have := h.1; simp [h0] at this; exact this
    subst hl
    exact ⟨_, rfl, by rw [compN]; exact World.ownsRow_nil _ _ _ _, hb⟩
  · rw [← enc_uL] at h
    obtain ⟨g, cap, rfl, hbg, hgl, hnc, hcm, hlen, hH⟩ := Lib.holds_of_ownsRow h hv
    subst hlen
    refine (comp_c g 0 cap (uL l) w hH (by omega) hnc).mono ?_
    rintro e w' ⟨rfl, q, rfl⟩
    have hle := Lib.compact_length_le (uL l)
    have hc := Lib.ownsRow_putRow (q := q) (k := (Lib.compact (uL l)).length) (ys := Lib.compact (uL l) ++ List.replicate ((uL l).length - (Lib.compact (uL l)).length) []) h (by simp; omega) (by omega)
    rw [List.take_left] at hc
    refine ⟨_, rfl, ?_, Lib.below_putRow hb hbg⟩
    rw [compN, enc_uB, uB_len]
    exact hc
end Go.Proofs.YtjeldfipipkfiaaGreatDoor
