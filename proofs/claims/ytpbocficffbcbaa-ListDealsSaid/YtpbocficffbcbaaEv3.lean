import Derived.Test.YtpbocficffbcbaaEv2
namespace Go.Proofs.Ytpbocficffbcbaa
open Go Go.RowKit
set_option linter.unusedVariables false

set_option maxRecDepth 100000 in
set_option maxHeartbeats 1600000 in
theorem refInvert (w : World) (e : Ev) : Calls Try.prog 65 #[evV e] w (EvTo w (inv e)) := by
  by_cases h1 : e.k = 1
  · have k0 : (e.k == 0) = false := by simp [h1]
    have k5 : (e.k == 5) = false := by simp [h1]
    have k1 : (e.k == 1) = true := by simp [h1]
    have Hi := Lib.hid (show inv e = { e with b := e.d, c := e.e, d := e.b, e := e.c } by simp [inv, h1])
    clear h1
    go_enter Try.func65, Try.ntmps65
    go_wp2_with fail
    go_region
    go_wp2_with fail
    refine bodyPost_ret (v := .agg #[.int .i64 e.k, .int .i64 e.a, .int .i64 e.d, .int .i64 e.e, .int .i64 e.b, .int .i64 e.c]) (by simp [results, Try.results65, go_sem]) rfl ⟨by rw [Hi.out], ?_⟩
    repeat (first | exact Below.refl _ _ | apply Below.drew | refine Below.alloc ?_ (by simp <;> omega) _ | refine Below.setCell ?_ (by simp <;> omega) _)
  by_cases h2 : 2 ≤ e.k ∧ e.k ≤ 4
  · have h2' : e.k = 2 ∨ e.k = 3 ∨ e.k = 4 := by omega
    have Hi := Lib.hid (show inv e = { e with c := e.d, d := e.c } by unfold inv setsB; rw [if_neg (by omega), if_neg (by omega), if_neg (by omega), if_pos (by simp; omega)])
    clear h2 h1
    obtain ⟨k, a, b, c, d, ee⟩ := e
    simp only at h2' Hi ⊢
    rcases h2' with rfl | rfl | rfl
    all_goals
      go_enter Try.func65, Try.ntmps65
      go_wp2_with fail
      go_region
      go_wp2_with fail
      refine bodyPost_ret (v := .agg #[_, .int .i64 a, .int .i64 b, .int .i64 d, .int .i64 c, .int .i64 ee]) (by simp [results, Try.results65, go_sem]; rfl) rfl ⟨by rw [Hi.out], ?_⟩
      repeat (first | exact Below.refl _ _ | apply Below.drew | refine Below.alloc ?_ (by simp <;> omega) _ | refine Below.setCell ?_ (by simp <;> omega) _)
  by_cases h0 : e.k = 0
  · have k0 : (e.k == 0) = true := by simp [h0]
    have Hi := Lib.hid (show inv e = { e with k := 5 } by simp [inv, h0])
    clear h0 h1 h2
    go_enter Try.func65, Try.ntmps65
    go_wp2_with fail
    refine bodyPost_ret (v := .agg #[.int .i64 5, .int .i64 e.a, .int .i64 e.b, .int .i64 e.c, .int .i64 e.d, .int .i64 e.e]) (by simp [results, Try.results65, go_sem]) rfl ⟨by rw [Hi.out], ?_⟩
    exact (((Below.refl _ _).alloc (Nat.le_refl _) _).alloc (by simp) _).alloc (by simp; omega) _
  by_cases h5 : e.k = 5
  · have k0 : (e.k == 0) = false := by simp [h0]
    have k5 : (e.k == 5) = true := by simp [h5]
    have Hi := Lib.hid (show inv e = { e with k := 0 } by simp [inv, h5])
    clear h0 h1 h2 h5
    go_enter Try.func65, Try.ntmps65
    go_wp2_with fail
    refine bodyPost_ret (v := .agg #[.int .i64 0, .int .i64 e.a, .int .i64 e.b, .int .i64 e.c, .int .i64 e.d, .int .i64 e.e]) (by simp [results, Try.results65, go_sem]) rfl ⟨by rw [Hi.out], ?_⟩
    exact (((Below.refl _ _).alloc (Nat.le_refl _) _).alloc (by simp) _).alloc (by simp; omega) _
  · have k0 : (e.k == 0) = false := by simp [h0]
    have k1 : (e.k == 1) = false := by simp [h1]
    have k2 : (e.k == 2) = false := by simp; omega
    have k3 : (e.k == 3) = false := by simp; omega
    have k4 : (e.k == 4) = false := by simp; omega
    have k5 : (e.k == 5) = false := by simp [h5]
    have Hi := Lib.hid (show inv e = e by unfold inv setsB; rw [if_neg h0, if_neg h5, if_neg h1, if_neg (by simp; omega)])
    clear h0 h1 h2 h5
    go_enter Try.func65, Try.ntmps65
    go_wp2_with fail
    refine bodyPost_ret (v := evV e) (by simp [results, Try.results65, go_sem]) rfl ⟨by rw [Hi.out], ?_⟩
    exact (((Below.refl _ _).alloc (Nat.le_refl _) _).alloc (by simp) _).alloc (by simp; omega) _
end Go.Proofs.Ytpbocficffbcbaa
