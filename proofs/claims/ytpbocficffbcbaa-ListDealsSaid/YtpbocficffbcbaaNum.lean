import Derived.Test.YtpbocficffbcbaaBase
import Derived.Test.YtpbocficffbcbaaProg
namespace Go.Proofs.Ytpbocficffbcbaa
open Go Go.RowKit
set_option linter.unusedVariables false

/-- An error by its number; 0: none. -/
def errV (t : TypeId) (n : Int) : Value := if n = 0 then .nilIface else .iface t (.int .i64 n)
theorem errV_zero (t : TypeId) : errV t 0 = .nilIface := rfl
theorem errV_pos (t : TypeId) (n : Int) (h : n ≠ 0) : errV t n = .iface t (.int .i64 n) := if_neg h


/-- 'err != nil', 'err == nil': facts for the walk. -/
theorem errV_neq (n : Int) (w : World) : (binOp .neq 25 (errV 32 n) .nilIface).run Try.prog w = .ok (.bool (n != 0)) w := by
  by_cases h : n = 0
  · subst h; kernel_rfl
  · rw [errV_pos _ _ h, show (n != 0) = true by simp [h]]; kernel_rfl
theorem errV_eql (n : Int) (w : World) : (binOp .eql 25 (errV 32 n) .nilIface).run Try.prog w = .ok (.bool (n == 0)) w := by
  by_cases h : n = 0
  · subst h; kernel_rfl
  · rw [errV_pos _ _ h, show (n == 0) = false by simp [h]]; kernel_rfl

theorem errV_guard {P : Program} (op : BinOp) (t u : TypeId) (x : Operand) (n : Int) (w : World) : (eqGuard op t x (.const .nilIface) (errV u n) .nilIface).run P w = .ok () w := by
  by_cases h : n = 0
  · subst h
    rw [errV_zero]
    unfold eqGuard
    cases op <;> cases x <;> rfl
  · rw [errV_pos _ _ h]
    unfold eqGuard
    cases op <;> rfl

set_option maxHeartbeats 400000 in
theorem num (w : World) (n : Int) : Calls Try.prog 44 #[errV 32 n] w (fun e w' => e = .returned (.int .i64 n) ∧ w = w') := by
  by_cases h : n = 0
  · subst h
    rw [errV_zero]
    go_enter Try.func44, Try.ntmps44
    go_wp2
    go_ret
    exact ⟨rfl, rfl⟩
  · rw [errV_pos _ _ h]
    have hn : (n != 0) = true := by simp [h]
    have hta : ∀ (w : World) (n : Int), (Instr.typeAssert (.iface 32 (.int .i64 n)) 25 32 true).run Try.prog w = .ok (.tuple #[.int .i64 n, .bool true]) w := fun _ _ => by kernel_rfl
    go_enter Try.func44, Try.ntmps44
    go_wp2
    go_ret
    exact ⟨rfl, rfl⟩

set_option maxHeartbeats 400000 in
theorem isErr (w : World) (n m : Int) : Calls Try.prog 21 #[errV 32 n, .int .i64 m] w (fun e w' => e = .returned (.bool (n == m)) ∧ w = w') := by
  go_enter Try.func21, Try.ntmps21
  go_wp2_with (go_at_call 44; refine (num _ _).mono ?_; rintro e w' ⟨rfl, rfl⟩)
  go_ret
  exact ⟨rfl, rfl⟩

/-- Only draws. -/
def Q (w w' : World) : Prop := ∃ n, w' = w.drewN n
theorem Q.refl (w : World) : Q w w := ⟨0, rfl⟩
theorem Q.drewN {w w' : World} (h : Q w w') (n : Nat) : Q w (w'.drewN n) := by
  obtain ⟨k, rfl⟩ := h
  exact ⟨k + n, by simp [World.drewN, Nat.add_assoc]⟩
theorem Q.below {w w' : World} (h : Q w w') (B : Nat) : Below B w w' := by
  obtain ⟨k, rfl⟩ := h
  exact below_drewN (Below.refl _ _) _
theorem Q.trans {w w' w2 : World} (h : Q w w') (k : Q w' w2) : Q w w2 := by
  obtain ⟨n, rfl⟩ := k
  exact h.drewN n

theorem map_int_cell {l : List Int} {k : Nat} (h : k < l.length) : (l.map (Value.int .i64))[k]? = some (.int .i64 (l.getD k 0)) := by simp [h]

theorem take_snoc {α : Type} (l : List α) (k : Nat) (d : α) (h : k < l.length) : l.take (k + 1) = l.take k ++ [l.getD k d] := by
  rw [List.take_succ_eq_append_getElem h]
  simp [h]

end Go.Proofs.Ytpbocficffbcbaa
