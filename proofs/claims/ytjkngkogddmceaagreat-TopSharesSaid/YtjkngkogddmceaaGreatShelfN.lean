/- The record of slices.SortFunc of notes at this seat. -/
import Derived.Shelf.SlGeneric
import Derived.Shelf.SlSortCmp.NoneTotal
import Derived.Ground.SlsfProg
import Derived.Test.YtjkngkogddmceaaGreatProg
namespace Go.Proofs
open Go.Shelf
def Tryz.sortN_ren : Go.Shelf.Ren := ⟨fun | 6 => 137 | 15 => 101 | 14 => 156 | 28 => 133 | 29 => 134 | 20 => 162 | 21 => 163 | 22 => 164 | 23 => 165 | 24 => 166 | 25 => 167 | 26 => 168 | 27 => 169 | 46 => 170 | 47 => 148 | 48 => 149 | 49 => 171 | 50 => 172 | 57 => 173 | n => n, fun | 22 => 74 | 24 => 107 | 25 => 173 | 3 => 3 | 39 => 124 | 0 => 0 | 53 => 154 | 55 => 157 | 4 => 4 | 46 => 162 | 45 => 161 | 50 => 131 | 5 => 5 | 9 => 9 | 66 => 181 | 70 => 185 | 76 => 191 | 77 => 175 | n => n, fun | n => n⟩
theorem Tryz.sortN : Go.Proofs.SlLaysF0.n6 Tryz.prog Tryz.sortN_ren := {
  mixed := by kernel_rfl
  f6 := ⟨Tryz.f137.name, by decide, Tryz.func137.trans (congrArg some (by kernel_rfl))⟩
  f14 := ⟨Tryz.f156.name, by decide, Tryz.func156.trans (congrArg some (by kernel_rfl))⟩
  f15 := Tryz.func101.trans (congrArg some (by kernel_rfl))
  f20 := ⟨Tryz.f162.name, by decide, Tryz.func162.trans (congrArg some (by kernel_rfl))⟩
  f21 := ⟨Tryz.f163.name, by decide, Tryz.func163.trans (congrArg some (by kernel_rfl))⟩
  f22 := ⟨Tryz.f164.name, by decide, Tryz.func164.trans (congrArg some (by kernel_rfl))⟩
  f23 := ⟨Tryz.f165.name, by decide, Tryz.func165.trans (congrArg some (by kernel_rfl))⟩
  f24 := ⟨Tryz.f166.name, by decide, Tryz.func166.trans (congrArg some (by kernel_rfl))⟩
  f25 := ⟨Tryz.f167.name, by decide, Tryz.func167.trans (congrArg some (by kernel_rfl))⟩
  f26 := ⟨Tryz.f168.name, by decide, Tryz.func168.trans (congrArg some (by kernel_rfl))⟩
  f27 := ⟨Tryz.f169.name, by decide, Tryz.func169.trans (congrArg some (by kernel_rfl))⟩
  f28 := Tryz.func133.trans (congrArg some (by kernel_rfl))
  f29 := Tryz.func134.trans (congrArg some (by kernel_rfl))
  f46 := ⟨Tryz.f170.name, by decide, Tryz.func170.trans (congrArg some (by kernel_rfl))⟩
  f47 := Tryz.func148.trans (congrArg some (by kernel_rfl))
  f48 := Tryz.func149.trans (congrArg some (by kernel_rfl))
  f49 := ⟨Tryz.f171.name, by decide, Tryz.func171.trans (congrArg some (by kernel_rfl))⟩
  f50 := ⟨Tryz.f172.name, by decide, Tryz.func172.trans (congrArg some (by kernel_rfl))⟩
  f57 := ⟨Tryz.f173.name, by decide, Tryz.func173.trans (congrArg some (by kernel_rfl))⟩
  t0 := Tryz.underlying0
  a0 := Tryz.isAgg0
  z0 := Tryz.sizeOf0
  v0 := Tryz.zeroValue0
  t3 := Tryz.underlying3
  a3 := Tryz.isAgg3
  z3 := Tryz.sizeOf3
  v3 := Tryz.zeroValue3
  t4 := Tryz.underlying4
  a4 := Tryz.isAgg4
  z4 := Tryz.sizeOf4
  v4 := Tryz.zeroValue4
  t5 := Tryz.underlying5
  a5 := Tryz.isAgg5
  z5 := Tryz.sizeOf5
  v5 := Tryz.zeroValue5
  t9 := Tryz.underlying9
  a9 := Tryz.isAgg9
  z9 := Tryz.sizeOf9
  v9 := Tryz.zeroValue9
  t22 := Tryz.underlying74
  a22 := Tryz.isAgg74
  z22 := Tryz.sizeOf74
  v22 := Tryz.zeroValue74
  t25 := Tryz.underlying173
  a25 := Tryz.isAgg173
  z25 := Tryz.sizeOf173
  v25 := Tryz.zeroValue173
  t39 := Tryz.underlying124
  a39 := Tryz.isAgg124
  z39 := Tryz.sizeOf124
  v39 := Tryz.zeroValue124
  t45 := Tryz.underlying161
  a45 := Tryz.isAgg161
  z45 := Tryz.sizeOf161
  v45 := Tryz.zeroValue161
  t46 := Tryz.underlying162
  a46 := Tryz.isAgg162
  z46 := Tryz.sizeOf162
  v46 := Tryz.zeroValue162
  t50 := Tryz.underlying131
  a50 := Tryz.isAgg131
  z50 := Tryz.sizeOf131
  v50 := Tryz.zeroValue131
  t53 := Tryz.underlying154
  a53 := Tryz.isAgg154
  z53 := Tryz.sizeOf154
  v53 := Tryz.zeroValue154
  t55 := Tryz.underlying157
  a55 := Tryz.isAgg157
  z55 := Tryz.sizeOf157
  v55 := Tryz.zeroValue157
  t66 := Tryz.underlying181
  a66 := Tryz.isAgg181
  z66 := Tryz.sizeOf181
  v66 := Tryz.zeroValue181
  t70 := Tryz.underlying185
  a70 := Tryz.isAgg185
  z70 := Tryz.sizeOf185
  v70 := Tryz.zeroValue185
  t76 := Tryz.underlying191
  a76 := Tryz.isAgg191
  z76 := Tryz.sizeOf191
  v76 := Tryz.zeroValue191
  t77 := Tryz.underlying175
  a77 := Tryz.isAgg175
  z77 := Tryz.sizeOf175
  v77 := Tryz.zeroValue175 }
end Go.Proofs
