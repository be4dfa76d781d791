/-
  The kit's proved contracts of the library's slices functions, at this program's numbers.
-/
import Derived.Test.YtpbocficffbcbaaClone
import Derived.Test.YtpbocficffbcbaaNum
import Derived.Shelf.Spec.SlicesInsertGrow
import Derived.Shelf.Slices.Reverse
import Derived.Shelf.Slices.Delete
import Derived.Shelf.Slices.Turned
namespace Go.Proofs.Ytpbocficffbcbaa
open Go Go.Shelf
set_option linter.unusedVariables false

def layInsert_ren : Go.Shelf.Ren := ⟨fun | 21 => 80 | 27 => 110 | 28 => 111 | 35 => 128 | 39 => 83 | n => n, fun | 0 => 0 | 3 => 3 | 4 => 4 | 22 => 22 | n => n, fun n => n⟩
theorem layInsert : Lays2.n21 Try.prog layInsert_ren where
  mixed := by kernel_rfl
  f21 := Try.func80.trans (congrArg some (by kernel_rfl))
  f27 := Try.func110.trans (congrArg some (by kernel_rfl))
  f28 := Try.func111.trans (congrArg some (by kernel_rfl))
  f35 := Try.func128.trans (congrArg some (by kernel_rfl))
  f39 := Try.func83.trans (congrArg some (by kernel_rfl))
  t0 := Try.underlying0
  a0 := Try.isAgg0
  z0 := Try.sizeOf0
  v0 := Try.zeroValue0
  t3 := Try.underlying3
  a3 := Try.isAgg3
  z3 := Try.sizeOf3
  v3 := Try.zeroValue3
  t4 := Try.underlying4
  a4 := Try.isAgg4
  z4 := Try.sizeOf4
  v4 := Try.zeroValue4
  t22 := Try.underlying22
  a22 := Try.isAgg22
  z22 := Try.sizeOf22
  v22 := Try.zeroValue22
  i3 := by kernel_rfl

def layDelete_ren : Go.Shelf.Ren := ⟨fun | 23 => 82 | n => n, fun | 0 => 0 | 3 => 3 | 4 => 4 | 22 => 22 | n => n, fun n => n⟩
theorem layDelete : Lays2.n23 Try.prog layDelete_ren where
  mixed := by kernel_rfl
  f23 := Try.func82.trans (congrArg some (by kernel_rfl))
  t0 := Try.underlying0
  a0 := Try.isAgg0
  z0 := Try.sizeOf0
  v0 := Try.zeroValue0
  t3 := Try.underlying3
  a3 := Try.isAgg3
  z3 := Try.sizeOf3
  v3 := Try.zeroValue3
  t4 := Try.underlying4
  a4 := Try.isAgg4
  z4 := Try.sizeOf4
  v4 := Try.zeroValue4
  t22 := Try.underlying22
  a22 := Try.isAgg22
  z22 := Try.sizeOf22
  v22 := Try.zeroValue22
  i3 := by kernel_rfl

def layIndex_ren : Go.Shelf.Ren := ⟨fun | 108 => 84 | n => n, fun | 0 => 0 | 3 => 3 | 4 => 4 | 28 => 22 | n => n, fun n => n⟩
theorem layIndex : Lays.n108 Try.prog layIndex_ren where
  mixed := by kernel_rfl
  f108 := Try.func84.trans (congrArg some (by kernel_rfl))
  t0 := Try.underlying0
  a0 := Try.isAgg0
  z0 := Try.sizeOf0
  v0 := Try.zeroValue0
  t3 := Try.underlying3
  a3 := Try.isAgg3
  z3 := Try.sizeOf3
  v3 := Try.zeroValue3
  t4 := Try.underlying4
  a4 := Try.isAgg4
  z4 := Try.sizeOf4
  v4 := Try.zeroValue4
  t28 := Try.underlying22
  a28 := Try.isAgg22
  z28 := Try.sizeOf22
  v28 := Try.zeroValue22

def layReverse_ren : Go.Shelf.Ren := ⟨fun | 112 => 83 | n => n, fun | 0 => 0 | 3 => 3 | 4 => 4 | 28 => 22 | n => n, fun n => n⟩
theorem layReverse : Lays.n112 Try.prog layReverse_ren where
  mixed := by kernel_rfl
  f112 := Try.func83.trans (congrArg some (by kernel_rfl))
  t0 := Try.underlying0
  a0 := Try.isAgg0
  z0 := Try.sizeOf0
  v0 := Try.zeroValue0
  t3 := Try.underlying3
  a3 := Try.isAgg3
  z3 := Try.sizeOf3
  v3 := Try.zeroValue3
  t4 := Try.underlying4
  a4 := Try.isAgg4
  z4 := Try.sizeOf4
  v4 := Try.zeroValue4
  t28 := Try.underlying22
  a28 := Try.isAgg22
  z28 := Try.sizeOf22
  v28 := Try.zeroValue22

end Go.Proofs.Ytpbocficffbcbaa
