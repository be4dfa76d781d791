/-
  slices.Sort at ints: the kit's proved contract, at this program's numbers.
-/
import Derived.Test.YtpbocficffbcbaaClone
import Derived.Shelf.Sort.Plain
namespace Go.Proofs.Ytpbocficffbcbaa
open Go Go.Shelf
set_option linter.unusedVariables false

def laySort_ren : Go.Shelf.Ren := ⟨fun | 125 => 133 | 128 => 143 | 129 => 144 | 189 => 126 | 215 => 129 | 216 => 140 | 257 => 132 | 294 => 134 | 295 => 135 | 296 => 136 | 297 => 137 | 298 => 138 | 299 => 139 | 300 => 141 | 301 => 142 | 328 => 145 | 329 => 146 | 330 => 147 | 331 => 148 | 332 => 149 | 343 => 150 | n => n, fun | 0 => 0 | 3 => 3 | 4 => 4 | 5 => 5 | 9 => 9 | 28 => 22 | 46 => 36 | 51 => 177 | 53 => 136 | 131 => 154 | 182 => 171 | 183 => 172 | 218 => 178 | 222 => 135 | 228 => 183 | 229 => 184 | n => n, fun n => n⟩
theorem laySort : Lays.n189 Try.prog laySort_ren where
  mixed := by kernel_rfl
  f125 := Try.func133.trans (congrArg some (by kernel_rfl))
  f128 := Try.func143.trans (congrArg some (by kernel_rfl))
  f129 := Try.func144.trans (congrArg some (by kernel_rfl))
  f189 := Try.func126.trans (congrArg some (by kernel_rfl))
  f215 := Try.func129.trans (congrArg some (by kernel_rfl))
  f216 := Try.func140.trans (congrArg some (by kernel_rfl))
  f257 := Try.func132.trans (congrArg some (by kernel_rfl))
  f294 := Try.func134.trans (congrArg some (by kernel_rfl))
  f295 := Try.func135.trans (congrArg some (by kernel_rfl))
  f296 := Try.func136.trans (congrArg some (by kernel_rfl))
  f297 := Try.func137.trans (congrArg some (by kernel_rfl))
  f298 := Try.func138.trans (congrArg some (by kernel_rfl))
  f299 := Try.func139.trans (congrArg some (by kernel_rfl))
  f300 := Try.func141.trans (congrArg some (by kernel_rfl))
  f301 := Try.func142.trans (congrArg some (by kernel_rfl))
  f328 := Try.func145.trans (congrArg some (by kernel_rfl))
  f329 := Try.func146.trans (congrArg some (by kernel_rfl))
  f330 := Try.func147.trans (congrArg some (by kernel_rfl))
  f331 := Try.func148.trans (congrArg some (by kernel_rfl))
  f332 := Try.func149.trans (congrArg some (by kernel_rfl))
  f343 := Try.func150.trans (congrArg some (by kernel_rfl))
  t0 := Try.underlying0
  a0 := Try.isAgg0
  z0 := Try.sizeOf0
  v0 := Try.zeroValue0
  t3 := Try.underlying3
  a3 := Try.isAgg3
  z3 := Try.sizeOf3
  v3 := Try.zeroValue3
  t4 := Try.underlying4
  a4 := Try.isAgg4
  z4 := Try.sizeOf4
  v4 := Try.zeroValue4
  t5 := Try.underlying5
  a5 := Try.isAgg5
  z5 := Try.sizeOf5
  v5 := Try.zeroValue5
  t9 := Try.underlying9
  a9 := Try.isAgg9
  z9 := Try.sizeOf9
  v9 := Try.zeroValue9
  t28 := Try.underlying22
  a28 := Try.isAgg22
  z28 := Try.sizeOf22
  v28 := Try.zeroValue22
  t46 := Try.underlying36
  a46 := Try.isAgg36
  z46 := Try.sizeOf36
  v46 := Try.zeroValue36
  t51 := Try.underlying177
  a51 := Try.isAgg177
  z51 := Try.sizeOf177
  v51 := Try.zeroValue177
  t53 := Try.underlying136
  a53 := Try.isAgg136
  z53 := Try.sizeOf136
  v53 := Try.zeroValue136
  t131 := Try.underlying154
  a131 := Try.isAgg154
  z131 := Try.sizeOf154
  v131 := Try.zeroValue154
  t182 := Try.underlying171
  a182 := Try.isAgg171
  z182 := Try.sizeOf171
  v182 := Try.zeroValue171
  t183 := Try.underlying172
  a183 := Try.isAgg172
  z183 := Try.sizeOf172
  v183 := Try.zeroValue172
  t218 := Try.underlying178
  a218 := Try.isAgg178
  z218 := Try.sizeOf178
  v218 := Try.zeroValue178
  t222 := Try.underlying135
  a222 := Try.isAgg135
  z222 := Try.sizeOf135
  v222 := Try.zeroValue135
  t228 := Try.underlying183
  a228 := Try.isAgg183
  z228 := Try.sizeOf183
  v228 := Try.zeroValue183
  t229 := Try.underlying184
  a229 := Try.isAgg184
  z229 := Try.sizeOf184
  v229 := Try.zeroValue184
end Go.Proofs.Ytpbocficffbcbaa
