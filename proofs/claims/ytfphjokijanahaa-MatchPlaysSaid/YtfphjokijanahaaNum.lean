import Derived.Test.YtfphjokijanahaaBase
import Derived.Test.YtfphjokijanahaaProg
namespace Go.Proofs.Ytfphjokijanahaa
open Go Go.RowKit
set_option linter.unusedVariables false

/-- An error by its number; 0: none. -/
def errV (t : TypeId) (n : Int) : Value := if n = 0 then .nilIface else .iface t (.int .i64 n)
theorem errV_zero (t : TypeId) : errV t 0 = .nilIface := rfl
theorem errV_pos (t : TypeId) (n : Int) (h : n ≠ 0) : errV t n = .iface t (.int .i64 n) := if_neg h


/-- 'err != nil', 'err == nil': facts for the walk. -/
theorem errV_neq (n : Int) (w : World) : (binOp .neq 32 (errV 39 n) .nilIface).run Try.prog w = .ok (.bool (n != 0)) w := by
  by_cases h : n = 0
  · subst h; kernel_rfl
  · rw [errV_pos _ _ h, show (n != 0) = true by simp [h]]; kernel_rfl
theorem errV_eql (n : Int) (w : World) : (binOp .eql 32 (errV 39 n) .nilIface).run Try.prog w = .ok (.bool (n == 0)) w := by
  by_cases h : n = 0
  · subst h; kernel_rfl
  · rw [errV_pos _ _ h, show (n == 0) = false by simp [h]]; kernel_rfl

theorem errV_guard {P : Program} (op : BinOp) (t u : TypeId) (x : Operand) (n : Int) (w : World) : (eqGuard op t x (.const .nilIface) (errV u n) .nilIface).run P w = .ok () w := by
  by_cases h : n = 0
  · subst h
    rw [errV_zero]
    unfold eqGuard
    cases op <;> cases x <;> rfl
  · rw [errV_pos _ _ h]
    unfold eqGuard
    cases op <;> rfl

set_option maxHeartbeats 400000 in
theorem num (w : World) (n : Int) : Calls Try.prog 20 #[errV 39 n] w (fun e w' => e = .returned (.int .i64 n) ∧ w = w') := by
  by_cases h : n = 0
  · subst h
    rw [errV_zero]
    go_enter Try.func20, Try.ntmps20
    go_wp2
    go_ret
    exact ⟨rfl, rfl⟩
  · rw [errV_pos _ _ h]
    have hn : (n != 0) = true := by simp [h]
    have hta : ∀ (w : World) (n : Int), (Instr.typeAssert (.iface 39 (.int .i64 n)) 32 39 true).run Try.prog w = .ok (.tuple #[.int .i64 n, .bool true]) w := fun _ _ => by kernel_rfl
    go_enter Try.func20, Try.ntmps20
    go_wp2
    go_ret
    exact ⟨rfl, rfl⟩

set_option maxHeartbeats 400000 in
theorem isErr (w : World) (n m : Int) : Calls Try.prog 13 #[errV 39 n, .int .i64 m] w (fun e w' => e = .returned (.bool (n == m)) ∧ w = w') := by
  go_enter Try.func13, Try.ntmps13
  go_wp2_with (go_at_call 20; refine (num _ _).mono ?_; rintro e w' ⟨rfl, rfl⟩)
  go_ret
  exact ⟨rfl, rfl⟩

/-- Only draws. -/
def Q (w w' : World) : Prop := ∃ n, w' = w.drewN n
theorem Q.refl (w : World) : Q w w := ⟨0, rfl⟩
theorem Q.drewN {w w' : World} (h : Q w w') (n : Nat) : Q w (w'.drewN n) := by
  obtain ⟨k, rfl⟩ := h
  exact ⟨k + n, by simp [World.drewN, Nat.add_assoc]⟩
theorem Q.below {w w' : World} (h : Q w w') (B : Nat) : Below B w w' := by
  obtain ⟨k, rfl⟩ := h
  exact below_drewN (Below.refl _ _) _
theorem Q.trans {w w' w2 : World} (h : Q w w') (k : Q w' w2) : Q w w2 := by
  obtain ⟨n, rfl⟩ := k
  exact h.drewN n

theorem map_int_cell {l : List Int} {k : Nat} (h : k < l.length) : (l.map (Value.int .i64))[k]? = some (.int .i64 (l.getD k 0)) := by simp [h]

theorem take_snoc {α : Type} (l : List α) (k : Nat) (d : α) (h : k < l.length) : l.take (k + 1) = l.take k ++ [l.getD k d] := by
  rw [List.take_succ_eq_append_getElem h]
  simp [h]

set_option maxHeartbeats 400000 in
theorem ints (w : World) (a b : Option Addr) (n m ca cb : Nat) (l k : List Int) (ha : SlAt w 1 a n ca (l.map (.int .i64))) (hb : SlAt w 1 b m cb (k.map (.int .i64))) :
    Calls Try.prog 25 #[.slice a n ca, .slice b m cb] w (fun e w' => e = .returned (.bool (decide (l = k))) ∧ Q w w') := by
  have hl : l.length = n := by simpa using ha.len
  have hk : k.length = m := by simpa using hb.len
  have hn1 := ha.le
  have hn2 := ha.max
  have hm1 := hb.le
  have hm2 := hb.max
  unfold maxLen at hn2 hm2
  by_cases hnm : n = m
  · subst hnm
    go_enter Try.func25, Try.ntmps25
    go_wp2
    go_loopw [13] (fun i wr => ∃ j : Nat, j ≤ n ∧ i = .int .i64 j ∧ Q w wr ∧ l.take j = k.take j) (fun i _ => n - (intOf i).toNat)
    case atStart => exact ⟨0, Nat.zero_le _, rfl, Q.refl _, by simp⟩
    case round =>
      obtain ⟨j, hj, rfl, hq, heq⟩ := hrel
      by_cases hlt : j < n
      · have ha' := ha.all (hq.below _)
        have hb' := hb.all (hq.below _)
        obtain ⟨b1, o1, rfl, hb1, hc1⟩ := ha'.nonempty (by omega)
        obtain ⟨b2, o2, rfl, hb2, hc2⟩ := hb'.nonempty (by omega)
        have hx := hc1 j _ (map_int_cell (by omega))
        have hy := hc2 j _ (map_int_cell (by omega))
        have hsx := Lib.hid (take_snoc l j 0 (by omega))
        have hsy := Lib.hid (take_snoc k j 0 (by omega))
        have hlj : j < l.length := by omega
        have hkj : j < k.length := by omega
        have hdx := Lib.hid (show l ≠ k ∨ l.getD j 0 = k.getD j 0 by by_cases h : l = k; (exact .inr (by rw [h])); (exact .inl h))
        generalize l.getD j 0 = x at *
        generalize k.getD j 0 = y at *
        have Heq := Lib.hid heq
        clear hc1 hc2 heq
        by_cases hxy : x = y
        · subst hxy
          go_wp2
          go_quiet (fail)
          go_wp2
          go_roundw
          case rel => exact ⟨j + 1, by omega, by go_num, hq.drewN _, by rw [hsx.out, hsy.out, Heq.out]⟩
          case measure => simp [intOf]; omega
        · have hne : (x != y) = true := by simp [hxy]
          have hdd := Lib.hid (show decide (l = k) = false by rcases hdx.out with h | h; (simp [h]); (exact absurd h hxy))
          go_wp2
          go_quiet (fail)
          go_wp2
          go_ret
          exact ⟨by rw [hdd.out]; rfl, hq.drewN _⟩
      · obtain rfl : j = n := by omega
        have hlk := Lib.hid (show decide (l = k) = true by rw [List.take_of_length_le (by omega), List.take_of_length_le (by omega)] at heq; simp [heq])
        clear heq
        go_wp2
        go_ret
        exact ⟨by rw [hlk.out]; rfl, hq⟩
  · have hne : (n != m) = true := by simp [hnm]
    have hdd := Lib.hid (show decide (l = k) = false by rw [decide_eq_false_iff_not]; intro h; rw [h] at hl; omega)
    have hne2 : ((n : Int) != (m : Int)) = true := by simp; omega
    clear hl hk
    go_enter Try.func25, Try.ntmps25
    go_wp2
    go_ret
    exact ⟨by rw [hdd.out]; rfl, Q.refl _⟩
end Go.Proofs.Ytfphjokijanahaa
