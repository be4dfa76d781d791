import Derived.Test.YtpbocficffbcbaaJAlive
namespace Go.Proofs.Ytpbocficffbcbaa
open Go Go.RowKit
set_option linter.unusedVariables false

set_option maxRecDepth 100000 in
set_option maxHeartbeats 3200000 in
theorem walkNil (w : World) (c : Int) (x : Ev) : Calls Try.prog 9 #[.int .i64 c, evV x] w (fun e w' => e = .returned (.bool true) ∧ Below w.heap.size w w') := by
  have ho := alloc_new w (.cells (evA x) 64)
  have b0 : Below w.heap.size w (w.alloc (.cells (evA x) 64)) := (Below.refl _ w).alloc (Nat.le_refl _) _
  go_enter Try.func9, Try.ntmps9
  go_wp2_with fail
  refine (aliveJ _).mono ?_
  rintro e w1 ⟨rfl, hb1⟩
  have b1 := b0.trans (hb1.mono b0.size)
  have ho1 := below_obj hb1 ho (by simp)
  have c0 := obj_cell ho1 0
  have c1 := obj_cell ho1 1
  have c2 := obj_cell ho1 2
  have c3 := obj_cell ho1 3
  have c4 := obj_cell ho1 4
  have c5 := obj_cell ho1 5
  simp at c0 c1 c2 c3 c4 c5
  clear ho ho1
  go_wp2_with fail
  refine (nSpan _ _).mono ?_
  rintro e w' ⟨rfl, rfl⟩
  go_wp2_with fail
  refine (nBack _ _).mono ?_
  rintro e w' ⟨rfl, rfl⟩
  go_wp2_with fail
  refine (nAdd _ _).mono ?_
  rintro e w' ⟨rfl, rfl⟩
  have b2 := b1.alloc b1.size (.cells #[.int .i64 x.k, .int .i64 x.a, .int .i64 x.b, .int .i64 x.c, .int .i64 x.d, .int .i64 x.e] 64)
  go_wp2_with fail
  refine (isErr _ _ _).mono ?_
  rintro e w' ⟨rfl, rfl⟩
  go_wp2_with fail
  refine (isErr _ _ _).mono ?_
  rintro e w' ⟨rfl, rfl⟩
  go_wp2_with fail
  refine (isErr _ _ _).mono ?_
  rintro e w' ⟨rfl, rfl⟩
  go_wp2_with fail
  refine (nFold _ _).mono ?_
  rintro e w' ⟨rfl, rfl⟩
  go_wp2_with fail
  refine (isErr _ _ _).mono ?_
  rintro e w' ⟨rfl, rfl⟩
  go_wp2_with fail
  refine (nMark _).mono ?_
  rintro e w' ⟨rfl, rfl⟩
  go_wp2_with fail
  refine (nLen _).mono ?_
  rintro e w' ⟨rfl, rfl⟩
  go_wp2_with fail
  refine (nNext _).mono ?_
  rintro e w' ⟨rfl, rfl⟩
  go_wp2_with fail
  refine (nLive _ _).mono ?_
  rintro e w' ⟨rfl, rfl⟩
  go_wp2_with fail
  refine (nMarks _).mono ?_
  rintro e w' ⟨rfl, rfl⟩
  go_wp2_with fail
  refine (nCopy _).mono ?_
  rintro e w' ⟨rfl, rfl⟩
  go_wp2_with fail
  go_ret
  exact ⟨rfl, b2⟩
end Go.Proofs.Ytpbocficffbcbaa
