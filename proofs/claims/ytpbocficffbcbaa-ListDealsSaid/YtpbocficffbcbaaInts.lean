import Derived.Test.YtpbocficffbcbaaNum
namespace Go.Proofs.Ytpbocficffbcbaa
open Go Go.RowKit
set_option linter.unusedVariables false

set_option maxHeartbeats 400000 in
theorem ints (w : World) (a b : Option Addr) (n m ca cb : Nat) (l k : List Int) (ha : SlAt w 1 a n ca (l.map (.int .i64))) (hb : SlAt w 1 b m cb (k.map (.int .i64))) :
    Calls Try.prog 20 #[.slice a n ca, .slice b m cb] w (fun e w' => e = .returned (.bool (decide (l = k))) ∧ Q w w') := by
  have hl : l.length = n := by simpa using ha.len
  have hk : k.length = m := by simpa using hb.len
  have hn1 := ha.le
  have hn2 := ha.max
  have hm1 := hb.le
  have hm2 := hb.max
  unfold maxLen at hn2 hm2
  by_cases hnm : n = m
  · subst hnm
    go_enter Try.func20, Try.ntmps20
    go_wp2
    go_loopw [13] (fun i wr => ∃ j : Nat, j ≤ n ∧ i = .int .i64 j ∧ Q w wr ∧ l.take j = k.take j) (fun i _ => n - (intOf i).toNat)
    case atStart => exact ⟨0, Nat.zero_le _, rfl, Q.refl _, by simp⟩
    case round =>
      obtain ⟨j, hj, rfl, hq, heq⟩ := hrel
      by_cases hlt : j < n
      · have ha' := ha.all (hq.below _)
        have hb' := hb.all (hq.below _)
        obtain ⟨b1, o1, rfl, hb1, hc1⟩ := ha'.nonempty (by omega)
        obtain ⟨b2, o2, rfl, hb2, hc2⟩ := hb'.nonempty (by omega)
        have hx := hc1 j _ (map_int_cell (by omega))
        have hy := hc2 j _ (map_int_cell (by omega))
        have hsx := Lib.hid (take_snoc l j 0 (by omega))
        have hsy := Lib.hid (take_snoc k j 0 (by omega))
        have hlj : j < l.length := by omega
        have hkj : j < k.length := by omega
        have hdx := Lib.hid (show l ≠ k ∨ l.getD j 0 = k.getD j 0 by by_cases h : l = k; (exact .inr (by rw [h])); (exact .inl h))
        generalize l.getD j 0 = x at *
        generalize k.getD j 0 = y at *
        have Heq := Lib.hid heq
        clear hc1 hc2 heq
        by_cases hxy : x = y
        · subst hxy
          go_wp2
          go_quiet (fail)
          go_wp2
          go_roundw
          case rel => exact ⟨j + 1, by omega, by go_num, hq.drewN _, by rw [hsx.out, hsy.out, Heq.out]⟩
          case measure => simp [intOf]; omega
        · have hne : (x != y) = true := by simp [hxy]
          have hdd := Lib.hid (show decide (l = k) = false by rcases hdx.out with h | h; (simp [h]); (exact absurd h hxy))
          go_wp2
          go_quiet (fail)
          go_wp2
          go_ret
          exact ⟨by rw [hdd.out]; rfl, hq.drewN _⟩
      · obtain rfl : j = n := by omega
        have hlk := Lib.hid (show decide (l = k) = true by rw [List.take_of_length_le (by omega), List.take_of_length_le (by omega)] at heq; simp [heq])
        clear heq
        go_wp2
        go_ret
        exact ⟨by rw [hlk.out]; rfl, hq⟩
  · have hne : (n != m) = true := by simp [hnm]
    have hdd := Lib.hid (show decide (l = k) = false by rw [decide_eq_false_iff_not]; intro h; rw [h] at hl; omega)
    have hne2 : ((n : Int) != (m : Int)) = true := by simp; omega
    clear hl hk
    go_enter Try.func20, Try.ntmps20
    go_wp2
    go_ret
    exact ⟨by rw [hdd.out]; rfl, Q.refl _⟩
end Go.Proofs.Ytpbocficffbcbaa
