import Derived.Test.YtpbocficffbcbaaJour2
namespace Go.Proofs.Ytpbocficffbcbaa
open Go Go.RowKit
set_option linter.unusedVariables false

/-! ### a nil journal -/
set_option maxHeartbeats 400000 in
theorem nAdd (w : World) (v : Value) : Calls Try.prog 32 #[.pointer none, v] w (fun e w' => e = .returned (errV 32 4) ∧ w = w') := by
  go_enter Try.func32, Try.ntmps32
  go_wp2_with fail
  go_ret
  exact ⟨rfl, rfl⟩
set_option maxHeartbeats 400000 in
theorem nMark (w : World) : Calls Try.prog 34 #[.pointer none] w (fun e w' => e = .returned (.int .i64 0) ∧ w = w') := by
  go_enter Try.func34, Try.ntmps34
  go_wp2_with fail
  go_ret
  exact ⟨rfl, rfl⟩
set_option maxHeartbeats 400000 in
theorem nFind (w : World) (c : Int) : Calls Try.prog 86 #[.pointer none, .int .i64 c] w (fun e w' => e = .returned (.int .i64 (-1)) ∧ w = w') := by
  go_enter Try.func86, Try.ntmps86
  go_wp2_with fail
  go_ret
  exact ⟨rfl, rfl⟩
set_option maxHeartbeats 400000 in
theorem nLive (w : World) (c : Int) : Calls Try.prog 38 #[.pointer none, .int .i64 c] w (fun e w' => e = .returned (.bool false) ∧ w = w') := by
  go_enter Try.func38, Try.ntmps38
  go_wp2_with (go_at_call 86; refine (nFind _ _).mono ?_; rintro e w' ⟨rfl, rfl⟩)
  go_ret
  exact ⟨rfl, rfl⟩
set_option maxHeartbeats 400000 in
theorem nSpan (w : World) (c : Int) : Calls Try.prog 53 #[.pointer none, .int .i64 c] w (fun e w' => e = .returned (.tuple #[.slice none 0 0, errV 32 16]) ∧ w = w') := by
  go_enter Try.func53, Try.ntmps53
  go_wp2_with (go_at_call 86; refine (nFind _ _).mono ?_; rintro e w' ⟨rfl, rfl⟩)
  go_ret2
  exact ⟨rfl, rfl⟩
set_option maxHeartbeats 400000 in
theorem nBack (w : World) (c : Int) : Calls Try.prog 35 #[.pointer none, .int .i64 c] w (fun e w' => e = .returned (.tuple #[.slice none 0 0, errV 32 16]) ∧ w = w') := by
  have hv : errV 32 16 = .iface 32 (.int .i64 16) := rfl
  go_enter Try.func35, Try.ntmps35
  go_wp2_with (go_at_call 53; refine (nSpan _ _).mono ?_; rintro e w' ⟨rfl, rfl⟩; rw [hv])
  go_ret2
  exact ⟨rfl, rfl⟩
set_option maxHeartbeats 400000 in
theorem nFold (w : World) (c : Int) : Calls Try.prog 47 #[.pointer none, .int .i64 c] w (fun e w' => e = .returned (errV 32 16) ∧ w = w') := by
  have hv : errV 32 16 = .iface 32 (.int .i64 16) := rfl
  go_enter Try.func47, Try.ntmps47
  go_wp2_with (go_at_call 53; refine (nSpan _ _).mono ?_; rintro e w' ⟨rfl, rfl⟩; rw [hv])
  go_ret
  exact ⟨rfl, rfl⟩
set_option maxHeartbeats 400000 in
theorem nLen (w : World) : Calls Try.prog 33 #[.pointer none] w (fun e w' => e = .returned (.int .i64 0) ∧ w = w') := by
  go_enter Try.func33, Try.ntmps33
  go_wp2_with fail
  go_ret
  exact ⟨rfl, rfl⟩
set_option maxHeartbeats 400000 in
theorem nNext (w : World) : Calls Try.prog 39 #[.pointer none] w (fun e w' => e = .returned (.int .i64 0) ∧ w = w') := by
  go_enter Try.func39, Try.ntmps39
  go_wp2_with fail
  go_ret
  exact ⟨rfl, rfl⟩
set_option maxHeartbeats 400000 in
theorem nMarks (w : World) : Calls Try.prog 40 #[.pointer none] w (fun e w' => e = .returned (.slice none 0 0) ∧ w = w') := by
  go_enter Try.func40, Try.ntmps40
  go_wp2_with fail
  go_ret
  exact ⟨rfl, rfl⟩
set_option maxHeartbeats 400000 in
theorem nCopy (w : World) : Calls Try.prog 51 #[.pointer none] w (fun e w' => e = .returned (.pointer none) ∧ w = w') := by
  go_enter Try.func51, Try.ntmps51
  go_wp2_with fail
  go_ret
  exact ⟨rfl, rfl⟩

/-- Behind a call that makes a new journal. -/
def NewJ (w : World) (es : List Ev) (ms : List Mk) (last : Int) (e : Ending) (w' : World) : Prop :=
  ∃ bj ea ec ma mc, e = .returned (.pointer (some ⟨bj, 0, none⟩)) ∧ JAt w' bj es ms last ea ec ma mc ∧ (∀ i, ownJ bj ea ma i → w.heap.size ≤ i) ∧ Below w.heap.size w w'
set_option maxHeartbeats 400000 in
theorem jnew (w : World) : Calls Try.prog 31 #[] w (NewJ w [] [] 0) := by
  go_enter Try.func31, Try.ntmps31
  go_wp2_with fail
  go_ret
  exact ⟨_, none, 0, none, 0, rfl, ⟨alloc_new w _, RowAt.null _ _ _, RowAt.null _ _ _⟩, (by rintro i (rfl | ⟨ad, he, _⟩ | ⟨ad, he, _⟩); exact Nat.le_refl _; cases he; cases he), (Below.refl _ w).alloc (Nat.le_refl _) _⟩
theorem jok_nil : JOk [] [] 0 := ⟨by intro i j x y h; simp at h, by simp, by simp, by intro i j x y h; simp at h, Int.le_refl _⟩
end Go.Proofs.Ytpbocficffbcbaa
