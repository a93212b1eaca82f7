/- Laid by the shelf's commands (lay-plain.mjs): slices.SortFunc at named types lies at this dump. -/
import Derived.Shelf.SlSortCmp.NoneTotal
import Derived.Shelf.SlGeneric
import Derived.Ground.SlsfProg
import Derived.Test.YtjeldfipipkfiaaGreatProg
namespace Go.Proofs
open Go.Shelf
def Tryz.sortNmL_ren : Go.Shelf.Ren := ⟨fun | 6 => 27 | 15 => 55 | 14 => 54 | 28 => 108 | 29 => 109 | 20 => 100 | 21 => 101 | 22 => 102 | 23 => 103 | 24 => 104 | 25 => 105 | 26 => 106 | 27 => 107 | 46 => 145 | 47 => 146 | 48 => 147 | 49 => 148 | 50 => 149 | 57 => 164 | n => n, fun | 22 => 31 | 24 => 57 | 25 => 69 | 3 => 3 | 39 => 101 | 0 => 0 | 53 => 134 | 55 => 136 | 4 => 4 | 46 => 127 | 45 => 126 | 50 => 131 | 5 => 5 | 9 => 9 | 66 => 156 | 70 => 160 | 76 => 171 | 77 => 172 | n => n, fun | n => n⟩
theorem Tryz.sortNmL : Go.Proofs.SlLaysF0.n6 Tryz.prog Tryz.sortNmL_ren := {
  mixed := by kernel_rfl
  f6 := ⟨Tryz.f27.name, by decide, Tryz.func27.trans (congrArg some (by kernel_rfl))⟩
  f14 := ⟨Tryz.f54.name, by decide, Tryz.func54.trans (congrArg some (by kernel_rfl))⟩
  f15 := Tryz.func55.trans (congrArg some (by kernel_rfl))
  f20 := ⟨Tryz.f100.name, by decide, Tryz.func100.trans (congrArg some (by kernel_rfl))⟩
  f21 := ⟨Tryz.f101.name, by decide, Tryz.func101.trans (congrArg some (by kernel_rfl))⟩
  f22 := ⟨Tryz.f102.name, by decide, Tryz.func102.trans (congrArg some (by kernel_rfl))⟩
  f23 := ⟨Tryz.f103.name, by decide, Tryz.func103.trans (congrArg some (by kernel_rfl))⟩
  f24 := ⟨Tryz.f104.name, by decide, Tryz.func104.trans (congrArg some (by kernel_rfl))⟩
  f25 := ⟨Tryz.f105.name, by decide, Tryz.func105.trans (congrArg some (by kernel_rfl))⟩
  f26 := ⟨Tryz.f106.name, by decide, Tryz.func106.trans (congrArg some (by kernel_rfl))⟩
  f27 := ⟨Tryz.f107.name, by decide, Tryz.func107.trans (congrArg some (by kernel_rfl))⟩
  f28 := Tryz.func108.trans (congrArg some (by kernel_rfl))
  f29 := Tryz.func109.trans (congrArg some (by kernel_rfl))
  f46 := ⟨Tryz.f145.name, by decide, Tryz.func145.trans (congrArg some (by kernel_rfl))⟩
  f47 := Tryz.func146.trans (congrArg some (by kernel_rfl))
  f48 := Tryz.func147.trans (congrArg some (by kernel_rfl))
  f49 := ⟨Tryz.f148.name, by decide, Tryz.func148.trans (congrArg some (by kernel_rfl))⟩
  f50 := ⟨Tryz.f149.name, by decide, Tryz.func149.trans (congrArg some (by kernel_rfl))⟩
  f57 := ⟨Tryz.f164.name, by decide, Tryz.func164.trans (congrArg some (by kernel_rfl))⟩
  t0 := Tryz.underlying0
  a0 := Tryz.isAgg0
  z0 := Tryz.sizeOf0
  v0 := Tryz.zeroValue0
  t3 := Tryz.underlying3
  a3 := Tryz.isAgg3
  z3 := Tryz.sizeOf3
  v3 := Tryz.zeroValue3
  t4 := Tryz.underlying4
  a4 := Tryz.isAgg4
  z4 := Tryz.sizeOf4
  v4 := Tryz.zeroValue4
  t5 := Tryz.underlying5
  a5 := Tryz.isAgg5
  z5 := Tryz.sizeOf5
  v5 := Tryz.zeroValue5
  t9 := Tryz.underlying9
  a9 := Tryz.isAgg9
  z9 := Tryz.sizeOf9
  v9 := Tryz.zeroValue9
  t22 := Tryz.underlying31
  a22 := Tryz.isAgg31
  z22 := Tryz.sizeOf31
  v22 := Tryz.zeroValue31
  t25 := Tryz.underlying69
  a25 := Tryz.isAgg69
  z25 := Tryz.sizeOf69
  v25 := Tryz.zeroValue69
  t39 := Tryz.underlying101
  a39 := Tryz.isAgg101
  z39 := Tryz.sizeOf101
  v39 := Tryz.zeroValue101
  t45 := Tryz.underlying126
  a45 := Tryz.isAgg126
  z45 := Tryz.sizeOf126
  v45 := Tryz.zeroValue126
  t46 := Tryz.underlying127
  a46 := Tryz.isAgg127
  z46 := Tryz.sizeOf127
  v46 := Tryz.zeroValue127
  t50 := Tryz.underlying131
  a50 := Tryz.isAgg131
  z50 := Tryz.sizeOf131
  v50 := Tryz.zeroValue131
  t53 := Tryz.underlying134
  a53 := Tryz.isAgg134
  z53 := Tryz.sizeOf134
  v53 := Tryz.zeroValue134
  t55 := Tryz.underlying136
  a55 := Tryz.isAgg136
  z55 := Tryz.sizeOf136
  v55 := Tryz.zeroValue136
  t66 := Tryz.underlying156
  a66 := Tryz.isAgg156
  z66 := Tryz.sizeOf156
  v66 := Tryz.zeroValue156
  t70 := Tryz.underlying160
  a70 := Tryz.isAgg160
  z70 := Tryz.sizeOf160
  v70 := Tryz.zeroValue160
  t76 := Tryz.underlying171
  a76 := Tryz.isAgg171
  z76 := Tryz.sizeOf171
  v76 := Tryz.zeroValue171
  t77 := Tryz.underlying172
  a77 := Tryz.isAgg172
  z77 := Tryz.sizeOf172
  v77 := Tryz.zeroValue172 }
end Go.Proofs
