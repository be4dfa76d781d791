import Derived.Test.YtpbocficffbcbaaJour7
namespace Go.Proofs.Ytpbocficffbcbaa
open Go Go.RowKit
set_option linter.unusedVariables false

def ev00 : Ev := ⟨0, 0, 0, 0, 0, 0⟩
def ev01 : Ev := ⟨0, 1, 0, 0, 0, 0⟩
theorem ownJ_below {w w' w0 : World} {bj : Nat} {ea ma : Option Addr} (h : Upd (ownJ bj ea ma) w w') (ho : ∀ i, ownJ bj ea ma i → w0.heap.size ≤ i) (hz : w0.heap.size ≤ w.heap.size) : Below w0.heap.size w w' :=
  h.below hz (fun k hk hb => by have := ho k hb; omega)
theorem ownJ_step {w : World} {B bj : Nat} {ea ma ea' ma' : Option Addr} (ho : ∀ i, ownJ bj ea ma i → B ≤ i) (hz : B ≤ w.heap.size) (h1 : ∀ ad, ea' = some ad → ea = some ad ∨ w.heap.size ≤ ad.block) (h2 : ∀ ad, ma' = some ad → ma = some ad ∨ w.heap.size ≤ ad.block) :
    ∀ i, ownJ bj ea' ma' i → B ≤ i := by
  rintro i (rfl | ⟨ad, he, rfl⟩ | ⟨ad, he, rfl⟩)
  · exact ho _ (.inl rfl)
  · rcases h1 ad he with h | h
    · exact ho _ (.inr (.inl ⟨ad, h, rfl⟩))
    · omega
  · rcases h2 ad he with h | h
    · exact ho _ (.inr (.inr ⟨ad, h, rfl⟩))
    · omega

set_option maxRecDepth 100000 in
set_option maxHeartbeats 3200000 in
theorem aliveJ (w : World) : Calls Try.prog 30 #[] w (fun e w' => e = .returned (.bool true) ∧ Below w.heap.size w w') := by
  have q : ∀ w, (binOp .eql 64 (.agg #[.int .i64 5, .int .i64 1, .int .i64 0, .int .i64 0, .int .i64 0, .int .i64 0]) (.agg #[.int .i64 5, .int .i64 1, .int .i64 0, .int .i64 0, .int .i64 0, .int .i64 0])).run Try.prog w = .ok (.bool true) w :=
    fun w => (ev_eql w ⟨5, 1, 0, 0, 0, 0⟩ ⟨5, 1, 0, 0, 0, 0⟩).trans (by simp)
  go_enter Try.func30, Try.ntmps30
  go_wp2_with fail
  refine (jnew _).mono ?_
  rintro e w1 ⟨bj, ea, ec, ma, mc, rfl, hj1, ho1, hb1⟩
  go_wp2_with fail
  refine (show Calls Try.prog 34 _ w1 (JTo w1 bj ea ma [] [(1, 0)] 1 (.int .i64 1)) from mark _ _ _ _ _ _ _ _ _ hj1 (by decide) (by decide) (by decide)).mono ?_
  rintro e w2 ⟨ea2, ec2, ma2, mc2, rfl, hj2, hu2, hl2, hl2'⟩
  have ho2 := ownJ_step ho1 hb1.size hl2 hl2'
  have b2 := hb1.trans (ownJ_below hu2 ho1 hb1.size)
  have hlit := (RowAt.lit w2 #[.int .i64 0, .int .i64 0, .int .i64 0, .int .i64 0, .int .i64 0, .int .i64 0, .int .i64 0, .int .i64 1, .int .i64 0, .int .i64 0, .int .i64 0, .int .i64 0] 64 6 2 (by decide) rfl (by simp [Value.oneCell'])).sl
  go_wp2_with fail
  refine (show Calls Try.prog 32 _ _ (JTo _ bj ea2 ma2 [ev00, ev01] [(1, 0)] 1 (errV 32 0)) from add _ _ _ _ _ _ _ _ _ (hj2.alloc _) (by decide) _ _ _ [ev00, ev01] hlit (by decide)).mono ?_
  rintro e w3 ⟨ea3, ec3, ma3, mc3, rfl, hj3, hu3, hl3, hl3'⟩
  have hz2 := b2.size
  have ho3 := ownJ_step (B := w.heap.size) ho2 (by simp; omega) hl3 hl3'
  have b3 := (b2.alloc b2.size _).trans (ownJ_below hu3 ho2 (by simp; omega))
  have ez := errV_zero 32
  rw [ez]
  clear hlit ez
  go_wp2_with fail
  refine (show Calls Try.prog 34 _ w3 (JTo w3 bj ea3 ma3 [ev00, ev01] [(1, 0), (2, 2)] 2 (.int .i64 2)) from mark _ _ _ _ _ _ _ _ _ hj3 (by decide) (by decide) (by decide)).mono ?_
  rintro e w4 ⟨ea4, ec4, ma4, mc4, rfl, hj4, hu4, hl4, hl4'⟩
  have ho4 := ownJ_step (B := w.heap.size) ho3 b3.size hl4 hl4'
  have b4 := b3.trans (ownJ_below hu4 ho3 b3.size)
  have ok4 : JOk [ev00, ev01] [(1, 0), (2, 2)] 2 := jok_mark (last := 1) (jok_add (es := []) (jok_mark jok_nil))
  go_wp2_with fail
  refine (show Calls Try.prog 35 _ w4 (JRet w4 bj ea4 ma4 [] [(1, 0)] 2 [⟨5, 1, 0, 0, 0, 0⟩, ⟨5, 0, 0, 0, 0, 0⟩]) from backOk _ _ _ _ _ _ _ _ _ hj4 ok4 (by decide) (by decide) 1 0 1 0 rfl rfl).mono ?_
  rintro e w5 ⟨ea5, ec5, ma5, mc5, a5, c5, rfl, hj5, hr5, hf5, hu5, hl5, hl5', hno5⟩
  have ho5 := ownJ_step (B := w.heap.size) ho4 b4.size hl5 hl5'
  have b5 := b4.trans (ownJ_below hu5 ho4 b4.size)
  have ok5 : JOk [] [(1, 0)] 2 := jok_cut (i := 0) (n := 1) (k := 0) ok4 rfl
  obtain ⟨b, off, x, hax, hx, hbb, ⟨xk, xa, xb, xc, xd, xe⟩⟩ := ev_at hr5.sl (show 0 < 2 by decide)
  subst hax
  obtain rfl : (⟨5, 1, 0, 0, 0, 0⟩ : Ev) = x := Option.some.inj hx
  simp only [Nat.zero_mul, Nat.add_zero] at xk xa xb xc xd xe
  clear hx hr5
  go_wp2_with fail
  refine (show Calls Try.prog 38 _ w5 (fun e w' => e = .returned (.bool false) ∧ Below w5.heap.size w5 w') from live _ _ _ _ _ _ _ _ _ hj5 ok5 (by decide) 2).mono ?_
  rintro e w6 ⟨rfl, hb6⟩
  have hj6 := hj5.all hb6
  go_wp2_with fail
  refine (show Calls Try.prog 38 _ w6 (fun e w' => e = .returned (.bool true) ∧ Below w6.heap.size w6 w') from live _ _ _ _ _ _ _ _ _ hj6 ok5 (by decide) 1).mono ?_
  rintro e w7 ⟨rfl, hb7⟩
  have hj7 := hj6.all hb7
  have b7 := (b5.trans (hb6.mono b5.size)).trans (hb7.mono (by have := hb6.size; have := b5.size; omega))
  go_wp2_with fail
  refine (show Calls Try.prog 34 _ w7 (JTo w7 bj ea5 ma5 [] [(1, 0), (3, 0)] 3 (.int .i64 3)) from mark _ _ _ _ _ _ _ _ _ hj7 (by decide) (by decide) (by decide)).mono ?_
  rintro e w8 ⟨ea8, ec8, ma8, mc8, rfl, hj8, hu8, hl8, hl8'⟩
  have b8 := b7.trans (ownJ_below hu8 ho5 b7.size)
  go_wp2_with fail
  go_ret
  exact ⟨rfl, b8⟩
end Go.Proofs.Ytpbocficffbcbaa
