/- Laid by the shelf's commands (lay-shelf.mjs, lay-plain.mjs): contracts of the library at this dump: slices_Sort_string, slices_Sort_string_none, slices_Compact_string, slices_Compact_string_empty. -/
import Derived.Shelf.Small.Bits
import Derived.Shelf.Strconv.Itoa0
import Derived.Shelf.Sort.Plain
import Derived.Shelf.Slices.Turned
import Derived.Shelf.Slices.Equal
import Derived.Ground.Names2Prog
import Derived.Shelf.Slices.Clone
import Derived.Shelf.Slices.CompactS
import Derived.Shelf.Slices.Cells
import Derived.Shelf.Slices.In.SortNone
import Derived.Shelf.Slices.Empties2
import Derived.Ground.SlgnProg
import Derived.Shelf.SlicesE.Clone
import Derived.Test.YtjeldfipipkfiaaGreatProg
import Derived.Shelf.Spec.SlicesGrow
import Derived.Sort.OwnSorted
import Derived.Lib.OwnBridge
import Derived.Test.YtjeldfipipkfiaaGreatGSub
namespace Go.Proofs
open Go.Shelf
def Tryz.lays190_ren : Go.Shelf.Ren := ⟨fun | 190 => 116 | 125 => 55 | 258 => 155 | 128 => 108 | 129 => 109 | 302 => 165 | 303 => 166 | 304 => 167 | 305 => 168 | 306 => 169 | 307 => 170 | 308 => 171 | 309 => 172 | 310 => 173 | 333 => 178 | 329 => 146 | 330 => 147 | 334 => 179 | 335 => 180 | 336 => 53 | 344 => 182 | n => n, fun | 31 => 50 | 9 => 9 | 3 => 3 | 46 => 101 | 0 => 0 | 51 => 134 | 53 => 136 | 4 => 4 | 183 => 127 | 182 => 126 | 131 => 131 | 5 => 5 | 218 => 156 | 222 => 160 | 228 => 171 | 229 => 172 | n => n, fun | n => n⟩
theorem Tryz.lays190 : Go.Proofs.Lays.n190 Tryz.prog Tryz.lays190_ren := {
  mixed := by kernel_rfl
  f125 := Tryz.func55.trans (congrArg some (by kernel_rfl))
  f128 := Tryz.func108.trans (congrArg some (by kernel_rfl))
  f129 := Tryz.func109.trans (congrArg some (by kernel_rfl))
  f190 := Tryz.func116.trans (congrArg some (by kernel_rfl))
  f258 := Tryz.func155.trans (congrArg some (by kernel_rfl))
  f302 := Tryz.func165.trans (congrArg some (by kernel_rfl))
  f303 := Tryz.func166.trans (congrArg some (by kernel_rfl))
  f304 := Tryz.func167.trans (congrArg some (by kernel_rfl))
  f305 := Tryz.func168.trans (congrArg some (by kernel_rfl))
  f306 := Tryz.func169.trans (congrArg some (by kernel_rfl))
  f307 := Tryz.func170.trans (congrArg some (by kernel_rfl))
  f308 := Tryz.func171.trans (congrArg some (by kernel_rfl))
  f309 := Tryz.func172.trans (congrArg some (by kernel_rfl))
  f310 := Tryz.func173.trans (congrArg some (by kernel_rfl))
  f329 := Tryz.func146.trans (congrArg some (by kernel_rfl))
  f330 := Tryz.func147.trans (congrArg some (by kernel_rfl))
  f333 := Tryz.func178.trans (congrArg some (by kernel_rfl))
  f334 := Tryz.func179.trans (congrArg some (by kernel_rfl))
  f335 := Tryz.func180.trans (congrArg some (by kernel_rfl))
  f336 := Tryz.func53.trans (congrArg some (by kernel_rfl))
  f344 := Tryz.func182.trans (congrArg some (by kernel_rfl))
  t0 := Tryz.underlying0
  a0 := Tryz.isAgg0
  z0 := Tryz.sizeOf0
  v0 := Tryz.zeroValue0
  t3 := Tryz.underlying3
  a3 := Tryz.isAgg3
  z3 := Tryz.sizeOf3
  v3 := Tryz.zeroValue3
  t4 := Tryz.underlying4
  a4 := Tryz.isAgg4
  z4 := Tryz.sizeOf4
  v4 := Tryz.zeroValue4
  t5 := Tryz.underlying5
  a5 := Tryz.isAgg5
  z5 := Tryz.sizeOf5
  v5 := Tryz.zeroValue5
  t9 := Tryz.underlying9
  a9 := Tryz.isAgg9
  z9 := Tryz.sizeOf9
  v9 := Tryz.zeroValue9
  t31 := Tryz.underlying50
  a31 := Tryz.isAgg50
  z31 := Tryz.sizeOf50
  v31 := Tryz.zeroValue50
  t46 := Tryz.underlying101
  a46 := Tryz.isAgg101
  z46 := Tryz.sizeOf101
  v46 := Tryz.zeroValue101
  t51 := Tryz.underlying134
  a51 := Tryz.isAgg134
  z51 := Tryz.sizeOf134
  v51 := Tryz.zeroValue134
  t53 := Tryz.underlying136
  a53 := Tryz.isAgg136
  z53 := Tryz.sizeOf136
  v53 := Tryz.zeroValue136
  t131 := Tryz.underlying131
  a131 := Tryz.isAgg131
  z131 := Tryz.sizeOf131
  v131 := Tryz.zeroValue131
  t182 := Tryz.underlying126
  a182 := Tryz.isAgg126
  z182 := Tryz.sizeOf126
  v182 := Tryz.zeroValue126
  t183 := Tryz.underlying127
  a183 := Tryz.isAgg127
  z183 := Tryz.sizeOf127
  v183 := Tryz.zeroValue127
  t218 := Tryz.underlying156
  a218 := Tryz.isAgg156
  z218 := Tryz.sizeOf156
  v218 := Tryz.zeroValue156
  t222 := Tryz.underlying160
  a222 := Tryz.isAgg160
  z222 := Tryz.sizeOf160
  v222 := Tryz.zeroValue160
  t228 := Tryz.underlying171
  a228 := Tryz.isAgg171
  z228 := Tryz.sizeOf171
  v228 := Tryz.zeroValue171
  t229 := Tryz.underlying172
  a229 := Tryz.isAgg172
  z229 := Tryz.sizeOf172
  v229 := Tryz.zeroValue172 }
open Go.Sort Go.RowKit in
theorem Tryz.slices_Sort_string (blk off cap : Nat) (ss : List (List UInt8)) (w : World) (hH : Holds encStr w blk off ss.toArray) (hblk : blk < w.heap.size) (hsz : ss.length < 4611686018427387904) :
    Calls Tryz.prog 116 #[.slice (some ⟨blk, off, none⟩) ss.length cap] w fun e w' =>
      e = .returned (.tuple #[]) ∧ ∃ n os, w' = grow (putRow encStr (Sort.ahead w n) blk off (ss.mergeSort fun x y => decide (x ≤ y)).toArray) os := Any.slices_Sort_string Tryz.lays190 blk off cap ss w hH hblk hsz
def Tryz.lays194_ren : Go.Shelf.Ren := ⟨fun | 194 => 117 | n => n, fun | 31 => 50 | 9 => 9 | 3 => 3 | 4 => 4 | 0 => 0 | n => n, fun | n => n⟩
theorem Tryz.lays194 : Go.Proofs.Lays.n194 Tryz.prog Tryz.lays194_ren := {
  mixed := by kernel_rfl
  f194 := Tryz.func117.trans (congrArg some (by kernel_rfl))
  t0 := Tryz.underlying0
  a0 := Tryz.isAgg0
  z0 := Tryz.sizeOf0
  v0 := Tryz.zeroValue0
  t3 := Tryz.underlying3
  a3 := Tryz.isAgg3
  z3 := Tryz.sizeOf3
  v3 := Tryz.zeroValue3
  t4 := Tryz.underlying4
  a4 := Tryz.isAgg4
  z4 := Tryz.sizeOf4
  v4 := Tryz.zeroValue4
  t9 := Tryz.underlying9
  a9 := Tryz.isAgg9
  z9 := Tryz.sizeOf9
  v9 := Tryz.zeroValue9
  t31 := Tryz.underlying50
  a31 := Tryz.isAgg50
  z31 := Tryz.sizeOf50
  v31 := Tryz.zeroValue50 }
open Go.RowKit Go.Lib Go.Sort in
theorem Tryz.slices_Compact_string (blk off cap : Nat) (zs : List (List UInt8)) (w : World) (hH : Holds encStr w blk off zs.toArray) (hsz : zs.length ≤ 9223372036854775807) (hcap : zs.length ≤ cap) :
    Calls Tryz.prog 117 #[.slice (some ⟨blk, off, none⟩) zs.length cap] w fun e w' => e = .returned (.slice (some ⟨blk, off, none⟩) (Lib.compact zs).length cap) ∧ ∃ q, w' = putRow encStr (Sort.ahead w q) blk off (Lib.compact zs ++ List.replicate (zs.length - (Lib.compact zs).length) []).toArray := Any.slices_Compact_string Tryz.lays194 blk off cap zs w hH hsz hcap
open Go.RowKit Go.Lib Go.Sort in
theorem Tryz.slices_Compact_string_empty (a : Option Addr) (cap : Nat) (w : World) :
    Calls Tryz.prog 117 #[.slice a 0 cap] w fun e w' => e = .returned (.slice a 0 cap) ∧ w' = w := Any.slices_Compact_string_empty Tryz.lays194 a cap w
open Go.RowKit Go.Sort in
theorem Tryz.slices_Sort_string_none (p : Option Addr) (cap : Nat) (w : World) :
    Calls Tryz.prog 116 #[.slice p 0 cap] w fun e w' => e = .returned (.tuple #[]) ∧ w' = w := Any.slices_Sort_string_none Tryz.lays190 p cap w
end Go.Proofs
namespace Go.Proofs
open Go.Shelf
def Tryz.laysGrowNamed_ren : Go.Shelf.Ren := ⟨fun | 4 => 174 | n => n, fun | 22 => 31 | 25 => 57 | 3 => 3 | 4 => 4 | 9 => 9 | 20 => 20 | 0 => 0 | n => n, fun | n => n⟩
theorem Tryz.laysGrowNamed : Go.Proofs.Lays8.n4 Tryz.prog Tryz.laysGrowNamed_ren := {
  mixed := by kernel_rfl
  f4 := ⟨Tryz.f174.name, by decide, Tryz.func174.trans (congrArg some (by kernel_rfl))⟩
  t0 := Tryz.underlying0
  a0 := Tryz.isAgg0
  z0 := Tryz.sizeOf0
  v0 := Tryz.zeroValue0
  t3 := Tryz.underlying3
  a3 := Tryz.isAgg3
  z3 := Tryz.sizeOf3
  v3 := Tryz.zeroValue3
  t4 := Tryz.underlying4
  a4 := Tryz.isAgg4
  z4 := Tryz.sizeOf4
  v4 := Tryz.zeroValue4
  t9 := Tryz.underlying9
  a9 := Tryz.isAgg9
  z9 := Tryz.sizeOf9
  v9 := Tryz.zeroValue9
  t20 := Tryz.underlying20
  a20 := Tryz.isAgg20
  z20 := Tryz.sizeOf20
  v20 := Tryz.zeroValue20
  t22 := Tryz.underlying31
  a22 := Tryz.isAgg31
  z22 := Tryz.sizeOf31
  v22 := Tryz.zeroValue31 }
def Tryz.laysGrowIface_ren : Go.Shelf.Ren := ⟨fun | 4 => 154 | n => n, fun | 22 => 26 | 25 => 33 | 3 => 3 | 4 => 4 | 9 => 9 | 20 => 20 | 0 => 0 | n => n, fun | n => n⟩
theorem Tryz.laysGrowIface : Go.Proofs.Lays8.n4 Tryz.prog Tryz.laysGrowIface_ren := {
  mixed := by kernel_rfl
  f4 := ⟨Tryz.f154.name, by decide, Tryz.func154.trans (congrArg some (by kernel_rfl))⟩
  t0 := Tryz.underlying0
  a0 := Tryz.isAgg0
  z0 := Tryz.sizeOf0
  v0 := Tryz.zeroValue0
  t3 := Tryz.underlying3
  a3 := Tryz.isAgg3
  z3 := Tryz.sizeOf3
  v3 := Tryz.zeroValue3
  t4 := Tryz.underlying4
  a4 := Tryz.isAgg4
  z4 := Tryz.sizeOf4
  v4 := Tryz.zeroValue4
  t9 := Tryz.underlying9
  a9 := Tryz.isAgg9
  z9 := Tryz.sizeOf9
  v9 := Tryz.zeroValue9
  t20 := Tryz.underlying20
  a20 := Tryz.isAgg20
  z20 := Tryz.sizeOf20
  v20 := Tryz.zeroValue20
  t22 := Tryz.underlying26
  a22 := Tryz.isAgg26
  z22 := Tryz.sizeOf26
  v22 := Tryz.zeroValue26 }
end Go.Proofs
namespace Go.Proofs.YtjeldfipipkfiaaGreat
open Go.RowKit Go.Shelf Go.Sort
theorem sort_c (blk off cap : Nat) (ss : List (List UInt8)) (w : World) (hH : Holds encStr w blk off ss.toArray) (hblk : blk < w.heap.size) (hsz : ss.length < 4611686018427387904) :
    Calls Tryz.prog 116 #[.slice (some ⟨blk, off, none⟩) ss.length cap] w fun e w' => e = .returned (.tuple #[]) ∧ ∃ n os, w' = grow (putRow encStr (Sort.ahead w n) blk off (ss.mergeSort fun x y => decide (x ≤ y)).toArray) os :=
  Any.slices_Sort_string Tryz.lays190 blk off cap ss w hH hblk hsz
theorem sort0_c (p : Option Addr) (cap : Nat) (w : World) : Calls Tryz.prog 116 #[.slice p 0 cap] w fun e w' => e = .returned (.tuple #[]) ∧ w' = w := Any.slices_Sort_string_none Tryz.lays190 p cap w
theorem comp_c (blk off cap : Nat) (zs : List (List UInt8)) (w : World) (hH : Holds encStr w blk off zs.toArray) (hsz : zs.length ≤ 9223372036854775807) (hcap : zs.length ≤ cap) :
    Calls Tryz.prog 117 #[.slice (some ⟨blk, off, none⟩) zs.length cap] w fun e w' => e = .returned (.slice (some ⟨blk, off, none⟩) (Lib.compact zs).length cap) ∧ ∃ q, w' = putRow encStr (Sort.ahead w q) blk off (Lib.compact zs ++ List.replicate (zs.length - (Lib.compact zs).length) []).toArray :=
  Any.slices_Compact_string Tryz.lays194 blk off cap zs w hH hsz hcap
theorem comp0_c (p : Option Addr) (cap : Nat) (w : World) : Calls Tryz.prog 117 #[.slice p 0 cap] w fun e w' => e = .returned (.slice p 0 cap) ∧ w' = w := Any.slices_Compact_string_empty Tryz.lays194 p cap w
theorem growRoomNamed (base : Option Addr) (l c n : Nat) (w : World) (hlc : l ≤ c) (hc63 : c ≤ 9223372036854775807) (hn63 : n ≤ 9223372036854775807) (hroom : l + n ≤ c) :
    Calls Tryz.prog 174 #[.slice base l c, .int .i64 n] w fun e w' => e = .returned (.slice base l c) ∧ w' = w := Any8.slices_Grow_room Tryz.laysGrowNamed base l c n w hlc hc63 hn63 hroom
theorem growNilNamed (i0 : TypeInfo) (z : Value) (hi0 : (Tryz.prog).info? 57 = some i0) (hz0 : i0.zero = some z) (hs0 : 0 < i0.size) (hb : i0.bytes ≤ 200) (n : Nat) (w : World) (h0 : 0 < n) (hn : n ≤ 1000000) :
    Calls Tryz.prog 174 #[.slice none 0 0, .int .i64 n] w fun e w' =>
      e = .returned (.slice (some ⟨w.heap.size, 0, none⟩) 0 (grownCap w (0 + n) 0 57)) ∧
      w' = w.drew.alloc (.cells (#[] ++ Builtin.zeroCells z.cells (0 + n - 0) ++ Builtin.zeroCells z.cells (grownCap w (0 + n) 0 57 - (0 + n))) 57) :=
  Any8.slices_Grow_grow Tryz.laysGrowNamed i0 z hi0 hz0 hs0 none 0 0 n [] w (Nat.le_refl _) (by omega) (Nat.le_trans (Nat.mul_le_mul (Nat.le_refl _) hb) (by omega)) (by omega) (by simp) (fun _ => rfl) (fun a h => by cases h)
theorem growRoomIface (base : Option Addr) (l c n : Nat) (w : World) (hlc : l ≤ c) (hc63 : c ≤ 9223372036854775807) (hn63 : n ≤ 9223372036854775807) (hroom : l + n ≤ c) :
    Calls Tryz.prog 154 #[.slice base l c, .int .i64 n] w fun e w' => e = .returned (.slice base l c) ∧ w' = w := Any8.slices_Grow_room Tryz.laysGrowIface base l c n w hlc hc63 hn63 hroom
theorem growNilIface (i0 : TypeInfo) (z : Value) (hi0 : (Tryz.prog).info? 33 = some i0) (hz0 : i0.zero = some z) (hs0 : 0 < i0.size) (hb : i0.bytes ≤ 200) (n : Nat) (w : World) (h0 : 0 < n) (hn : n ≤ 1000000) :
    Calls Tryz.prog 154 #[.slice none 0 0, .int .i64 n] w fun e w' =>
      e = .returned (.slice (some ⟨w.heap.size, 0, none⟩) 0 (grownCap w (0 + n) 0 33)) ∧
      w' = w.drew.alloc (.cells (#[] ++ Builtin.zeroCells z.cells (0 + n - 0) ++ Builtin.zeroCells z.cells (grownCap w (0 + n) 0 33 - (0 + n))) 33) :=
  Any8.slices_Grow_grow Tryz.laysGrowIface i0 z hi0 hz0 hs0 none 0 0 n [] w (Nat.le_refl _) (by omega) (Nat.le_trans (Nat.mul_le_mul (Nat.le_refl _) hb) (by omega)) (by omega) (by simp) (fun _ => rfl) (fun a h => by cases h)
end Go.Proofs.YtjeldfipipkfiaaGreat
namespace Go.Proofs.YtjeldfipipkfiaaGreat
set_option linter.unusedSimpArgs false
set_option linter.unusedVariables false
theorem cover_iff (r : Ty → Ty → Bool) (a : Ty) : ∀ (ns : List ByteArray) (ss : List Ty), coverL r a ns ss = true ↔ ∀ k (h : k < ns.length) (h' : k < ss.length), memB ns[k] a.names = true ∧ r (ofT a ns[k]) ss[k] = true
  | [], _ => by simp [coverL]
  | _ :: _, [] => by simp [coverL]
  | n :: ns, s :: ss => by
    rw [coverL, Bool.and_eq_true, Bool.and_eq_true, cover_iff r a ns ss]
    constructor
    · rintro ⟨⟨h1, h2⟩, h3⟩ k h h'
      cases k with
      | zero => exact ⟨h1, h2⟩
      | succ k => exact h3 k (by simpa using h) (by simpa using h')
    · intro h
      exact ⟨h 0 (by simp) (by simp), fun k hk hk' => h (k + 1) (by simpa using hk) (by simpa using hk')⟩
theorem first_get : ∀ {l : List ByteArray} {s : ByteArray} (h : memB s l = true), l[firstOf l s]'(firstOf_lt h) = s
  | [], _, h => by simp [memB] at h
  | x :: l, s, h => by
    by_cases e : x = s
    · simp [firstOf, e]
    · have h' : memB s l = true := by simpa [memB, e] using h
      have := first_get h'
      simp only [firstOf, if_neg e, List.getElem_cons_succ]
      exact this
theorem subF_kind {n : Nat} {a b : Ty} (h : subF (n + 1) a b = true) : a.kind = b.kind := by
  by_cases hk : a.kind = b.kind
  · exact hk
  · rw [subF, if_neg hk] at h
    exact absurd h (by decide)
theorem args_iff (r : Ty → Ty → Bool) (xs ys : List Ty) (n : Nat) : argsB r xs ys n = true ↔ ∀ i, i < n → r (ys.getD i zeroTy) (xs.getD i zeroTy) = true := by
  simp [argsB, List.all_eq_true]
theorem func_iff (r : Ty → Ty → Bool) (xs ys : List Ty) : funcB r xs ys = true ↔ xs.length = ys.length ∧ r (xs.getD (xs.length - 1) zeroTy) (ys.getD (xs.length - 1) zeroTy) = true ∧ ∀ i, i < xs.length - 1 → r (ys.getD i zeroTy) (xs.getD i zeroTy) = true := by
  rw [funcB, Bool.and_eq_true, Bool.and_eq_true, decide_eq_true_eq, args_iff]
theorem deep_le {t s : Ty} {n : Nat} (h : deepT t ≤ n + 1) (hs : s ∈ t.subs) : deepT s ≤ n := by
  have := deep_child hs
  omega
theorem getD_mem {l : List Ty} {i : Nat} (h : i < l.length) : l.getD i zeroTy ∈ l := by rw [getD_at h]; exact List.getElem_mem h
theorem sub_trans : ∀ (n : Nat) (a b c : Ty), mayT a = true → mayT b = true → mayT c = true → deepT a ≤ n → deepT b ≤ n → deepT c ≤ n → subF n a b = true → subF n b c = true → subF n a c = true
  | 0, a, _, _, _, _, _, hd, _, _, _, _ => by have := deep_bound a; omega
  | n + 1, a, b, c, ma, mb, mc, da, db, dc, hab, hbc => by
    have IH : ∀ x y z, x ∈ a.subs → y ∈ b.subs → z ∈ c.subs → subF n x y = true → subF n y z = true → subF n x z = true := fun x y z hx hy hz =>
      sub_trans n x y z (may_child ma hx) (may_child mb hy) (may_child mc hz) (deep_le da hx) (deep_le db hy) (deep_le dc hz)
    have IR : ∀ x y z, x ∈ a.subs → y ∈ b.subs → z ∈ c.subs → subF n z y = true → subF n y x = true → subF n z x = true := fun x y z hx hy hz =>
      sub_trans n z y x (may_child mc hz) (may_child mb hy) (may_child ma hx) (deep_le dc hz) (deep_le db hy) (deep_le da hx)
    have k1 := subF_kind hab
    have k2 := subF_kind hbc
    rw [subF, if_pos k1] at hab
    rw [subF, if_pos k2] at hbc
    rw [subF, if_pos (k1.trans k2)]
    by_cases h4 : a.kind = 4
    · rw [if_pos h4] at hab ⊢
      rw [if_pos (k1 ▸ h4)] at hbc
      exact IH _ _ _ (getD_mem (by rw [may_list ma h4]; decide)) (getD_mem (by rw [may_list mb (k1 ▸ h4)]; decide)) (getD_mem (by rw [may_list mc (k2 ▸ k1 ▸ h4)]; decide)) hab hbc
    rw [if_neg h4] at hab ⊢
    rw [if_neg (fun e => h4 (k1.trans e))] at hbc
    by_cases h5 : a.kind = 5
    · rw [if_pos h5, cover_iff] at hab ⊢
      rw [if_pos (k1 ▸ h5), cover_iff] at hbc
      have ra := may_rows ma (.inl h5)
      have rb := may_rows mb (.inl (k1 ▸ h5))
      intro k h h'
      obtain ⟨m1, s1⟩ := hbc k h h'
      have hj := firstOf_lt m1
      have hb := rb.len
      obtain ⟨m2, s2⟩ := hab (firstOf b.names c.names[k]) hj (by omega)
      rw [first_get m1] at m2 s2
      rw [ofT, if_pos m1, getD_at (by omega)] at s1
      exact ⟨m2, IH _ _ _ (ofT_mem m2 ra.len) (List.getElem_mem _) (List.getElem_mem _) s2 s1⟩
    rw [if_neg h5] at hab ⊢
    rw [if_neg (fun e => h5 (k1.trans e))] at hbc
    by_cases h6 : a.kind = 6
    · rw [if_pos h6, cover_iff] at hab ⊢
      rw [if_pos (k1 ▸ h6), cover_iff] at hbc
      have rc := may_rows mc (.inr (k2 ▸ k1 ▸ h6))
      have rb := may_rows mb (.inr (k1 ▸ h6))
      intro k h h'
      obtain ⟨m1, s1⟩ := hab k h h'
      have hj := firstOf_lt m1
      have hb := rb.len
      obtain ⟨m2, s2⟩ := hbc (firstOf b.names a.names[k]) hj (by omega)
      rw [first_get m1] at m2 s2
      rw [ofT, if_pos m1, getD_at (by omega)] at s1
      exact ⟨m2, IH _ _ _ (List.getElem_mem _) (List.getElem_mem _) (ofT_mem m2 rc.len) s1 s2⟩
    rw [if_neg h6] at hab ⊢
    rw [if_neg (fun e => h6 (k1.trans e))] at hbc
    by_cases h7 : a.kind = 7
    · rw [if_pos h7, func_iff] at hab ⊢
      rw [if_pos (k1 ▸ h7), func_iff] at hbc
      obtain ⟨e1, l1, a1⟩ := hab
      obtain ⟨e2, l2, a2⟩ := hbc
      have f1 := may_func ma h7
      rw [← e1] at l2 a2
      exact ⟨e1.trans e2, IH _ _ _ (getD_mem (by omega)) (getD_mem (by omega)) (getD_mem (by omega)) l1 l2, fun i hi => IR _ _ _ (getD_mem (by omega)) (getD_mem (by omega)) (getD_mem (by omega)) (a2 i hi) (a1 i hi)⟩
    rw [if_neg h7] at hab ⊢
    rw [if_neg (fun e => h7 (k1.trans e))] at hbc
    rw [alike_iff] at hab hbc ⊢
    exact hab.trans hbc
theorem rise_tail {x : ByteArray} {l : List ByteArray} (h : riseB (x :: l) = true) : riseB l = true := by
  cases l with
  | nil => rfl
  | cons y l =>
    rw [riseB, Bool.and_eq_true] at h
    exact h.2
theorem rise_head {x : ByteArray} {l : List ByteArray} (h : riseB (x :: l) = true) {y : ByteArray} (hy : y ∈ l) : ltB x y = true := by
  obtain ⟨i, hi, rfl⟩ := List.getElem_of_mem hy
  exact rise_lt h 0 (i + 1) (by omega) (by simpa using hi)
theorem rise_eq : ∀ {l m : List ByteArray}, riseB l = true → riseB m = true → (∀ s, s ∈ l ↔ s ∈ m) → l = m
  | [], [], _, _, _ => rfl
  | [], y :: m, _, _, h => absurd ((h y).2 (by simp)) (by simp)
  | x :: l, [], _, _, h => absurd ((h x).1 (by simp)) (by simp)
  | x :: l, y :: m, hl, hm, h => by
    have e : x = y := by
      rcases List.mem_cons.1 ((h x).1 (by simp)) with e | hx
      · exact e
      · rcases List.mem_cons.1 ((h y).2 (by simp)) with e | hy
        · exact e.symm
        · have h1 := rise_head hm hx
          have h2 := rise_head hl hy
          have := ltB_trans h1 h2
          rw [ltB_irrefl] at this
          exact absurd this (by decide)
    subst e
    rw [rise_eq (rise_tail hl) (rise_tail hm) fun s => ?_]
    constructor
    · intro hs
      rcases List.mem_cons.1 ((h s).1 (List.mem_cons_of_mem _ hs)) with e | hs'
      · subst e
        have := rise_head hl hs
        rw [ltB_irrefl] at this
        exact absurd this (by decide)
      · exact hs'
    · intro hs
      rcases List.mem_cons.1 ((h s).2 (List.mem_cons_of_mem _ hs)) with e | hs'
      · subst e
        have := rise_head hm hs
        rw [ltB_irrefl] at this
        exact absurd this (by decide)
      · exact hs'
end Go.Proofs.YtjeldfipipkfiaaGreat
namespace Go.Proofs.YtjeldfipipkfiaaGreat
open Go.RowKit Go.Sort
set_option linter.unusedSimpArgs false
set_option linter.unusedVariables false
def uL (l : List ByteArray) : List (List UInt8) := l.map (·.data.toList)
def uB (l : List (List UInt8)) : List ByteArray := l.map fun x => ⟨x.toArray⟩
theorem enc_uL (l : List ByteArray) : (uL l).map encStr = l.map Value.string := Lib.map_encStr l
theorem uL_uB (l : List (List UInt8)) : uL (uB l) = l := by
  unfold uL uB
  rw [List.map_map]
  exact (List.map_congr_left (fun x _ => by simp)).trans (List.map_id _)
theorem enc_uB (l : List (List UInt8)) : (uB l).map Value.string = l.map encStr := by rw [← enc_uL, uL_uB]
theorem uL_len (l : List ByteArray) : (uL l).length = l.length := List.length_map ..
theorem uB_len (l : List (List UInt8)) : (uB l).length = l.length := List.length_map ..
theorem mem_uL {x : ByteArray} {l : List ByteArray} : x.data.toList ∈ uL l ↔ x ∈ l := by
  constructor
  · intro h
    obtain ⟨y, hy, e⟩ := List.mem_map.1 h
    have : y = x := by cases x; cases y; simp_all
    exact this ▸ hy
  · exact fun h => List.mem_map.2 ⟨x, h, rfl⟩
theorem mem_uB {x : ByteArray} {l : List (List UInt8)} : x ∈ uB l ↔ x.data.toList ∈ l := by rw [← mem_uL, uL_uB]
def sortN (l : List ByteArray) : List ByteArray := uB ((uL l).mergeSort fun x y => decide (x ≤ y))
def compN (l : List ByteArray) : List ByteArray := uB (Lib.compact (uL l))
def unionN (l l' : List ByteArray) : List ByteArray := compN (sortN (l ++ l'))
theorem sortN_len (l : List ByteArray) : (sortN l).length = l.length := by rw [sortN, uB_len, List.length_mergeSort, uL_len]
theorem compN_len (l : List ByteArray) : (compN l).length ≤ l.length := by rw [compN, uB_len, ← uL_len l]; exact Lib.compact_length_le _
theorem unionN_len (l l' : List ByteArray) : (unionN l l').length ≤ l.length + l'.length := by
  have := compN_len (sortN (l ++ l'))
  rw [sortN_len, List.length_append] at this
  exact this
theorem compact_mem (zs : List (List UInt8)) (x : List UInt8) : x ∈ Lib.compact zs ↔ x ∈ zs := by
  unfold Lib.compact Lib.compactUpTo
  constructor
  · intro h
    obtain ⟨j, hj, rfl⟩ := List.mem_map.1 h
    have hj' := List.mem_range.1 (List.mem_filter.1 hj).1
    simp [hj']
  · intro h
    obtain ⟨i, hi, rfl⟩ := List.getElem_of_mem h
    have key : ∀ i (hi : i < zs.length), zs[i] ∈ ((List.range zs.length).filter (Lib.keeps zs.toArray)).map (zs.toArray[·]!) := by
      intro i
      induction i with
      | zero =>
        intro hi
        exact List.mem_map.2 ⟨0, List.mem_filter.2 ⟨List.mem_range.2 hi, by simp [Lib.keeps]⟩, by simp [hi]⟩
      | succ i ih =>
        intro hi
        by_cases e : zs[i + 1] = zs[i]
        · rw [e]; exact ih (by omega)
        · refine List.mem_map.2 ⟨i + 1, List.mem_filter.2 ⟨List.mem_range.2 hi, ?_⟩, by simp [hi]⟩
          simp [Lib.keeps, hi, show i < zs.length by omega, e]
    exact key i hi
theorem compact_lt (zs : List (List UInt8)) (h : zs.Pairwise fun x y => x ≤ y) : (Lib.compact zs).Pairwise fun x y => x < y := by
  unfold Lib.compact Lib.compactUpTo
  rw [List.pairwise_map]
  refine List.Pairwise.imp_of_mem ?_ (List.Pairwise.filter _ List.pairwise_lt_range)
  intro i j hi hj hij
  have hi' := List.mem_range.1 (List.mem_filter.1 hi).1
  have hj' := List.mem_range.1 (List.mem_filter.1 hj).1
  have hk := (List.mem_filter.1 hj).2
  have hne : zs[j] ≠ zs[j - 1] := by
    simp [Lib.keeps, hj', show j - 1 < zs.length by omega] at hk
    rcases hk with hk | hk
    · omega
    · exact hk
  have hle : zs[j - 1] ≤ zs[j] := List.pairwise_iff_getElem.1 h (j - 1) j (by omega) hj' (by omega)
  have h1 : zs[j - 1] < zs[j] := Std.lt_of_le_of_ne hle (Ne.symm hne)
  have h2 : zs[i] ≤ zs[j - 1] := by
    by_cases e : i = j - 1
    · subst e; exact List.le_refl _
    · exact List.pairwise_iff_getElem.1 h i (j - 1) hi' (by omega) (by omega)
  simp only [List.getElem!_toArray, List.getElem!_eq_getElem?_getD, List.getElem?_eq_getElem hi', List.getElem?_eq_getElem hj', Option.getD_some]
  exact List.lt_of_le_of_lt h2 h1
theorem rise_of_lt : ∀ (l : List (List UInt8)), l.Pairwise (fun x y => x < y) → riseB (uB l) = true := by
  intro l h
  rw [riseB_iff]
  intro i hi
  have hl : (uB l).length = l.length := uB_len l
  have h1 := List.pairwise_iff_getElem.1 h i (i + 1) (by omega) (by omega) (by omega)
  have e : ∀ j (hj : j < (uB l).length), (uB l)[j].toList = l[j]'(by omega) := fun j hj => by
    simp [uB]
  rw [ltB, e, e, bytesLess_eq]
  simpa using h1
theorem unionN_rise (l l' : List ByteArray) : riseB (unionN l l') = true := by
  refine rise_of_lt _ (compact_lt _ ?_)
  rw [sortN, uL_uB]
  have := List.pairwise_mergeSort (le := fun x y : List UInt8 => decide (x ≤ y)) (fun a b c h1 h2 => by simp only [decide_eq_true_eq] at *; exact List.le_trans h1 h2) (fun a b => by
    rcases List.le_total a b with h | h <;> simp [h]) (uL (l ++ l'))
  exact this.imp fun h => by simpa using h
theorem unionN_mem (l l' : List ByteArray) (x : ByteArray) : x ∈ unionN l l' ↔ x ∈ l ∨ x ∈ l' := by
  rw [unionN, compN, mem_uB, compact_mem, sortN, uL_uB, List.mem_mergeSort, mem_uL, List.mem_append]
theorem sortU_c {base n : Nat} {v : Value} {l : List ByteArray} {w w0 : World} (h : w.ownsRow base 9 1 v n (l.map Value.string)) (hb : Below base w0 w) (hn : n ≤ 1000000) :
    Calls Tryz.prog 116 #[v] w fun e w' => e = .returned (.tuple #[]) ∧ w'.ownsRow base 9 1 v n ((sortN l).map Value.string) ∧ Below base w0 w' := by
  by_cases hv : v = .slice none 0 0
  · subst hv
    refine (sort0_c none 0 w).mono ?_
    rintro e w' ⟨rfl, rfl⟩
    have h0 : n = 0 := by
      rcases h.2 with ⟨-, h0⟩ | ⟨g, cap, cur, h0, -⟩
      · exact h0
      · simp at h0
    have hl : l = [] := by have := h.1; simp [h0] at this; exact this
    subst hl
    exact ⟨rfl, by rw [sortN]; simpa [uL, uB] using h, hb⟩
  · rw [← enc_uL] at h
    obtain ⟨g, cap, rfl, hbg, hgl, hnc, hcm, hlen, hH⟩ := Lib.holds_of_ownsRow h hv
    subst hlen
    refine (sort_c g 0 cap (uL l) w hH hgl (by omega)).mono ?_
    rintro e w' ⟨rfl, nn, os, rfl⟩
    obtain ⟨-, ⟨h0, -⟩ | ⟨g', cap', cur, h0, h1, h2, h3, h4, h5, -⟩⟩ := h
    · cases h0
    cases h0
    refine ⟨rfl, ?_, hb.grown (grownBy_sorted _) (by omega) (fun j hj => by cases hj; exact hbg)⟩
    rw [sortN, enc_uB]
    exact ownsRow_sorted (List.length_mergeSort _) hbg h2 h3 h4 h5
theorem compU_c {base n : Nat} {v : Value} {l : List ByteArray} {w w0 : World} (h : w.ownsRow base 9 1 v n (l.map Value.string)) (hb : Below base w0 w) (hn : n ≤ 1000000) :
    Calls Tryz.prog 117 #[v] w fun e w' => ∃ v', e = .returned v' ∧ w'.ownsRow base 9 1 v' (compN l).length ((compN l).map Value.string) ∧ Below base w0 w' := by
  by_cases hv : v = .slice none 0 0
  · subst hv
    refine (comp0_c none 0 w).mono ?_
    rintro e w' ⟨rfl, rfl⟩
    have h0 : n = 0 := by
      rcases h.2 with ⟨-, h0⟩ | ⟨g, cap, cur, h0, -⟩
      · exact h0
      · simp at h0
    have hl : l = [] := by have := h.1; simp [h0] at this; exact this
    subst hl
    exact ⟨_, rfl, by rw [compN]; exact World.ownsRow_nil _ _ _ _, hb⟩
  · rw [← enc_uL] at h
    obtain ⟨g, cap, rfl, hbg, hgl, hnc, hcm, hlen, hH⟩ := Lib.holds_of_ownsRow h hv
    subst hlen
    refine (comp_c g 0 cap (uL l) w hH (by omega) hnc).mono ?_
    rintro e w' ⟨rfl, q, rfl⟩
    have hle := Lib.compact_length_le (uL l)
    have hc := Lib.ownsRow_putRow (q := q) (k := (Lib.compact (uL l)).length) (ys := Lib.compact (uL l) ++ List.replicate ((uL l).length - (Lib.compact (uL l)).length) []) h (by simp; omega) (by omega)
    rw [List.take_left] at hc
    refine ⟨_, rfl, ?_, Lib.below_putRow hb hbg⟩
    rw [compN, enc_uB, uB_len]
    exact hc
end Go.Proofs.YtjeldfipipkfiaaGreat
