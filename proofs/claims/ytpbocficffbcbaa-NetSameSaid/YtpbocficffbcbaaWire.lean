import Derived.Test.YtpbocficffbcbaaAlive12
import Derived.Laws.Bits64
namespace Go.Proofs.Ytpbocficffbcbaa
open Go Go.RowKit
set_option linter.unusedVariables false

set_option maxRecDepth 100000 in
set_option maxHeartbeats 400000 in
theorem doNil (w : World) (e : Ev) : Calls Try.prog 62 #[.pointer none, evV e] w (fun x w' => x = .returned (errV 32 (if chk e = 0 then 4 else chk e)) ∧ Below w.heap.size w w') := by
  obtain ⟨n, hn⟩ : ∃ n, n = if chk e = 0 then 4 else chk e := ⟨_, rfl⟩
  rw [← hn]
  obtain ⟨k, hk⟩ : ∃ k, k = chk e := ⟨_, rfl⟩
  rw [← hk] at hn
  have Hn := Lib.hid hn
  have Hk := Lib.hid hk
  clear hn hk
  have b0 : Below w.heap.size w (w.alloc (.cells (evA e) 64)) := ((Below.refl _ w).alloc (Nat.le_refl _) _)
  have B0 := Lib.hid b0
  clear b0
  go_enter Try.func62, Try.ntmps62
  go_wp2_with fail
  refine (check _ e).mono ?_
  rintro x w1 ⟨rfl, hb1⟩
  rw [← Hk.out]
  have Hb := Lib.hid (B0.out.trans (hb1.mono (by simp)))
  clear hb1
  by_cases h0 : k = 0
  · have hn0 : n = 4 := by rw [Hn.out, if_pos h0]
    subst h0
    rw [errV_zero]
    have Hn0 := Lib.hid hn0
    clear hn0
    go_wp2
    go_ret
    exact ⟨ret_err (a := 4) Hn0.out.symm, Hb.out⟩
  · have hn0 : n = k := by rw [Hn.out, if_neg h0]
    rw [errV_pos _ _ h0]
    have Hn0 := Lib.hid hn0
    have H0 := Lib.hid h0
    clear hn0 h0
    go_wp2
    go_ret
    exact ⟨by rw [Hn0.out, errV_pos _ _ H0.out]; rfl, Hb.out⟩

/-- What stands for a number. -/
def stand (n : Int) : Int := if 0 ≤ n then 2 * n else -2 * n - 1
set_option maxHeartbeats 400000 in
theorem stands (w : World) (n : Int) (h1 : -9223372036854775808 ≤ n) (h2 : n ≤ 9223372036854775807) : Calls Try.prog 100 #[.int .i64 n] w (fun x w' => x = .returned (.int .u64 (stand n)) ∧ w = w') := by
  go_enter Try.func100, Try.ntmps100
  by_cases h : 0 ≤ n
  · go_wp2
    go_ret
    exact ⟨by simp [stand, h], rfl⟩
  · go_wp2
    go_ret
    exact ⟨by have : ¬ 0 ≤ n := by omega
              simp [stand, this]; omega, rfl⟩
theorem xor_ones (a : Nat) (h : a < 18446744073709551616) : a ^^^ 18446744073709551615 = 18446744073709551615 - a := by
  have := congrArg BitVec.toNat (BitVec.xor_allOnes (x := BitVec.ofNat 64 a))
  simp only [BitVec.toNat_xor, BitVec.toNat_ofNat, BitVec.toNat_allOnes, BitVec.toNat_not] at this
  rw [Nat.mod_eq_of_lt (by omega)] at this
  omega
theorem zig_eq (n : Int) (h1 : -9223372036854775808 ≤ n) (h2 : n ≤ 9223372036854775807) : bits .xor .u64 (IntKind.u64.wrap (IntKind.u64.wrap n * 2)) (IntKind.u64.wrap (n / 9223372036854775808)) = stand n := by
  simp only [IntKind.wrap_u64]
  by_cases h : 0 ≤ n
  · obtain ⟨m, rfl⟩ : ∃ m : Nat, n = m := ⟨n.toNat, by omega⟩
    rw [show ((m : Int) % 18446744073709551616 * 2 % 18446744073709551616) = ((2 * m : Nat) : Int) by omega, show ((m : Int) / 9223372036854775808 % 18446744073709551616) = ((0 : Nat) : Int) by omega, bits_xor_u64_nat _ _ (by omega) (by omega)]
    simp [stand]
  · obtain ⟨m, rfl⟩ : ∃ m : Nat, n = -(m : Int) - 1 := ⟨(-n - 1).toNat, by omega⟩
    rw [show ((-(m : Int) - 1) % 18446744073709551616 * 2 % 18446744073709551616) = ((18446744073709551614 - 2 * m : Nat) : Int) by omega, show ((-(m : Int) - 1) / 9223372036854775808 % 18446744073709551616) = ((18446744073709551615 : Nat) : Int) by omega, bits_xor_u64_nat _ _ (by omega) (by omega), xor_ones _ (by omega)]
    unfold stand
    rw [if_neg h]
    omega
set_option maxHeartbeats 400000 in
theorem zig (w : World) (n : Int) (h1 : -9223372036854775808 ≤ n) (h2 : n ≤ 9223372036854775807) : Calls Try.prog 121 #[.int .i64 n] w (fun x w' => x = .returned (.int .u64 (stand n)) ∧ w = w') := by
  go_enter Try.func121, Try.ntmps121
  go_wp2
  go_ret
  exact ⟨by rw [← zig_eq n h1 h2]; rfl, rfl⟩
end Go.Proofs.Ytpbocficffbcbaa
