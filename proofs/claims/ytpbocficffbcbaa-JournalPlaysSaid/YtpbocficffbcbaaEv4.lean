import Derived.Test.YtpbocficffbcbaaEv
namespace Go.Proofs.Ytpbocficffbcbaa
open Go Go.RowKit
set_option linter.unusedVariables false

set_option maxRecDepth 100000 in
set_option maxHeartbeats 6400000 in
theorem refCheck (w : World) (e : Ev) : Calls Try.prog 61 #[evV e] w (fun x w' => x = .returned (.int .i64 (chk e)) ∧ Below w.heap.size w w') := by
  have b1 : Below w.heap.size w (w.alloc (.cells (evA e) 64)) := ((Below.refl _ w).alloc (Nat.le_refl _) _)
  by_cases hk : 0 ≤ e.k ∧ e.k ≤ 5
  · obtain ⟨k, a, b, c, d, ee⟩ := e
    simp only at hk b1 ⊢
    have hk' : k = 0 ∨ k = 1 ∨ k = 2 ∨ k = 3 ∨ k = 4 ∨ k = 5 := by omega
    clear hk
    rcases hk' with rfl | rfl | rfl | rfl | rfl | rfl
    all_goals
      go_enter Try.func61, Try.ntmps61
      go_wp2
      all_goals
        go_ret
        refine ⟨ret_int ?_, (Below.refl _ w).alloc (Nat.le_refl _) _⟩
        simp [chk, spareB, rangesB, makesB, inB, smallB]
        try (simp at *)
        try omega
  · have hk' : e.k < 0 ∨ (0 ≤ e.k ∧ 5 < e.k) := by omega
    have Hc := Lib.hid (show chk e = 6 by simp [chk, inB]; intros; omega)
    clear hk
    rcases hk' with hk' | ⟨hk', hk2⟩
    all_goals
      go_enter Try.func61, Try.ntmps61
      go_wp2
      all_goals
        go_ret
        exact ⟨ret_int (by rw [Hc.out]), b1⟩
end Go.Proofs.Ytpbocficffbcbaa
