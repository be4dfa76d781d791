import Derived.Test.YtpbocficffbcbaaList
namespace Go.Proofs.Ytpbocficffbcbaa
open Go Go.RowKit
set_option linter.unusedVariables false

def movAt (zs : List Int) (i j : Nat) : List Int := insAt (remAt zs i) j (zs.getD i 0)
theorem remAt_len (zs : List Int) (i : Nat) (h : i < zs.length) : (remAt zs i).length = zs.length - 1 := by
  unfold remAt
  simp
  omega
set_option maxRecDepth 100000 in
set_option maxHeartbeats 400000 in
theorem moveBad (w : World) (a : Option Addr) (n cap : Nat) (zs : List Int) (h : SlAt w 1 a n cap (zs.map (.int .i64))) (f t : Int) (hb : f < 0 ∨ (n : Int) ≤ f ∨ t < 0 ∨ (n : Int) ≤ t) :
    Calls Try.prog 25 #[.slice a n cap, .int .i64 f, .int .i64 t] w (fun e w' => e = .returned (.tuple #[.slice none 0 0, errV 32 1]) ∧ w = w') := by
  by_cases ht : 0 ≤ t ∧ t < n
  · have hd : decide (0 ≤ t ∧ t < (n : Int)) = true := by simpa using ht
    have hv : errV 32 1 = .iface 32 (.int .i64 1) := rfl
    go_enter Try.func25, Try.ntmps25
    go_wp2_with (first
      | (go_at_call 79; refine (placeOk _ _ _ _ _).mono ?_; rintro e w' ⟨rfl, rfl⟩; rw [hd])
      | (go_at_call 19; refine (remBad _ _ _ _ _ (by omega)).mono ?_; rintro e w' ⟨rfl, rfl⟩; rw [hv]))
    go_ret2
    exact ⟨rfl, rfl⟩
  · have hd : decide (0 ≤ t ∧ t < (n : Int)) = false := by simpa using ht
    go_enter Try.func25, Try.ntmps25
    go_wp2_with (go_at_call 79; refine (placeOk _ _ _ _ _).mono ?_; rintro e w' ⟨rfl, rfl⟩; rw [hd])
    go_ret2
    exact ⟨rfl, rfl⟩
set_option maxRecDepth 100000 in
set_option maxHeartbeats 400000 in
theorem moveOk (w : World) (a : Option Addr) (n cap : Nat) (zs : List Int) (h : SlAt w 1 a n cap (zs.map (.int .i64))) (hn : n < 1000000) (i j : Nat) (hi : i < n) (hj : j < n) :
    Calls Try.prog 25 #[.slice a n cap, .int .i64 i, .int .i64 j] w (NewList w n (movAt zs i j)) := by
  have hl := Lib.hid (nil_of_len h)
  have hd : decide (0 ≤ (j : Int) ∧ (j : Int) < (n : Int)) = true := by simp; omega
  go_enter Try.func25, Try.ntmps25
  go_wp2_with (go_at_call 79; refine (placeOk _ _ _ _ _).mono ?_; rintro e w' ⟨rfl, rfl⟩; rw [hd])
  refine (remOk _ _ _ _ zs h hn i hi).mono ?_
  rintro e w1 ⟨a1, c1, rfl, hr1, hf1, hb1⟩
  have hs1 := hr1.sl
  clear hr1
  obtain ⟨z, hz⟩ : ∃ z, z = zs.getD i 0 := ⟨_, rfl⟩
  rw [← hz]
  have Hz := Lib.hid hz
  clear hz
  go_wp2_with fail
  refine (insOk _ _ _ _ (remAt zs i) hs1 (by omega) j (by omega) z).mono ?_
  rintro e w2 ⟨a2, c2, rfl, hr2, hf2, hb2⟩
  rw [show n - 1 + 1 = n by omega] at hr2 ⊢
  have hm : insAt (remAt zs i) j z = movAt zs i j := by rw [Hz.out]; rfl
  rw [hm] at hr2
  have H2 := Lib.hid hr2
  clear hr2 hs1 hm
  go_wp2_with fail
  go_ret2
  exact ⟨a2, c2, rfl, H2.out, hf2.mono hb1.size, hb1.trans (hb2.mono hb1.size)⟩

set_option maxHeartbeats 400000 in
theorem aliveList (w : World) : Calls Try.prog 17 #[] w (fun e w' => e = .returned (.bool true) ∧ Below w.heap.size w w') := by
  have hlit := (RowAt.lit w #[.int .i64 1, .int .i64 2, .int .i64 3] 3 1 3 (by decide) rfl (by simp [Value.oneCell'])).sl
  go_enter Try.func17, Try.ntmps17
  go_wp2_with fail
  refine (moveOk _ _ 3 3 [1, 2, 3] hlit (by decide) 0 2 (by decide) (by decide)).mono ?_
  rintro e w1 ⟨a1, c1, rfl, hr1, hf1, hb1⟩
  have hs1 : SlAt w1 1 a1 3 c1 (([2, 3, 1] : List Int).map (.int .i64)) := hr1.sl
  have hl2 := (RowAt.lit w1 #[.int .i64 2, .int .i64 3, .int .i64 1] 3 1 3 (by decide) rfl (by simp [Value.oneCell'])).sl
  clear hr1
  have b1 : Below w.heap.size w w1 := ((Below.refl w.heap.size w).alloc (Nat.le_refl _) _).trans (hb1.mono (by simp))
  go_wp2_with (go_at_call 20; refine (ints _ _ _ _ _ _ _ [2, 3, 1] [2, 3, 1] (hs1.alloc _) hl2).mono ?_; rintro e w2 ⟨rfl, hq⟩)
  go_ret
  exact ⟨by simp, (b1.alloc b1.size _).trans ((hq.below _).mono (by have := b1.size; simp; omega))⟩
end Go.Proofs.Ytpbocficffbcbaa
