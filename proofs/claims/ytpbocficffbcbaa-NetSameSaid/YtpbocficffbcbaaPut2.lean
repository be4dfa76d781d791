import Derived.Test.YtpbocficffbcbaaPut
namespace Go.Proofs.Ytpbocficffbcbaa
open Go Go.RowKit
set_option linter.unusedVariables false

theorem putB_len : ∀ (k x : Nat), x < 128 ^ (k + 1) → (putB x).length ≤ k + 1
  | 0, x, h => by rw [putB_low (by simpa using h)]; simp
  | k + 1, x, h => by
    by_cases hx : x < 128
    · rw [putB_low hx]; simp
    · rw [putB_high hx]
      have := putB_len k (x / 128) (by rw [Nat.div_lt_iff_lt_mul (by decide)]; rw [Nat.pow_succ] at h; exact h)
      simp
      omega
theorem putB_ten (x : Nat) (h : x < 18446744073709551616) : (putB x).length ≤ 10 := putB_len 9 x (by omega)
theorem stand_range (n : Int) (h1 : -9223372036854775808 ≤ n) (h2 : n ≤ 9223372036854775807) : 0 ≤ stand n ∧ stand n < 18446744073709551616 := by
  unfold stand
  split <;> omega

/-- Behind a call that hands back new bytes. -/
def NewB (w : World) (l : List Int) (x : Ending) (w' : World) : Prop :=
  ∃ a cap, x = .returned (.slice a l.length cap) ∧ RowAt w' 5 1 a l.length cap (l.map (.int .u8)) ∧ Fresh w.heap.size a ∧ Below w.heap.size w w'

structure PutR (w wr : World) (l : List Int) (X : Nat) (done : List Int) (a : Option Addr) (c : Nat) : Prop where
  row : RowAt wr 5 1 a done.length c (done.map (.int .u8))
  new : Fresh w.heap.size a
  bel : Below w.heap.size w wr
  eq : done ++ putB X = l
  lt : X < 18446744073709551616

set_option maxRecDepth 100000 in
set_option maxHeartbeats 800000 in
theorem refBytes (w : World) (n : Int) (h1 : -9223372036854775808 ≤ n) (h2 : n ≤ 9223372036854775807) :
    Calls Try.prog 63 #[.int .i64 n] w (NewB w (putB (stand n).toNat)) := by
  obtain ⟨hs1, hs2⟩ := stand_range n h1 h2
  have hst := stands w n h1 h2
  generalize stand n = z at *
  obtain ⟨Z, rfl⟩ : ∃ Z : Nat, z = Z := ⟨z.toNat, by omega⟩
  have hZ : Z < 18446744073709551616 := by omega
  rw [Int.toNat_natCast]
  have hlen := putB_ten Z hZ
  have Hst := Lib.hid hst
  have Hlen := Lib.hid hlen
  have HZ := Lib.hid hZ
  clear hst hlen hZ hs1 hs2
  go_enter Try.func63, Try.ntmps63
  go_wp2_with fail
  refine Hst.out.mono ?_
  rintro x w' ⟨rfl, rfl⟩
  go_wp2_with fail
  go_loopw [3, 4] (fun x s wr => ∃ (X : Nat) (done : List Int) (a : Option Addr) (c k : Nat), x = .int .u64 X ∧ k = done.length ∧ s = .slice a k c ∧ PutR w wr (putB Z) X done a c) (fun x _ _ => (intOf x).toNat)
  case atStart => exact ⟨Z, [], _, _, 0, rfl, rfl, rfl, RowAt.lit w #[] _ 1 0 (Nat.zero_le _) rfl (by simp), fresh_new (Nat.le_refl _), (Below.refl _ w).alloc (Nat.le_refl _) _, by simp, HZ.out⟩
  case round =>
    obtain ⟨X, done, a, c, k, rfl, hk, rfl, hr⟩ := hrel
    have hX := hr.lt
    have hl := congrArg List.length hr.eq
    rw [List.length_append] at hl
    have hle := Hlen.out
    have Hr := Lib.hid hr
    have Hk := Lib.hid hk
    have hk10 : k + (putB X).length ≤ 10 := by omega
    have HK := Lib.hid hk10
    clear hk hr hl hle hk10
    by_cases hx : X < 128
    · have hpb := putB_low hx
      have hlit : ((X : Int) % 256) = X := by omega
      go_wp2_with (at_builtin; refine wp_append rfl (.tmp 19) (.tmp 22) 92 rfl 5 (.int .u8 0) 1 1 Try.underlying92 Try.infoByte rfl (by decide) rfl rfl (by rw [Hk.out]; exact Hr.out.row.alloc _) (RowAt.lit wr #[.int .u8 X] 5 1 1 (by decide) rfl (by simp [Value.oneCell'])).sl (by have := HK.out; unfold maxLen; omega) (by have := HK.out; omega) ?_; intro a' c' w' hrow hupd hloc hnil)
      go_ret
      have hd := Hr.out.eq
      rw [hpb] at hd
      refine ⟨a', c', ?_, ?_, Hr.out.new.step Hr.out.bel.size (fun ad he => (hloc ad he).imp id (fun h => by simp at h; omega)), Hr.out.bel.trans (((Below.refl _ wr).alloc (Nat.le_refl _) _).mono Hr.out.bel.size |>.trans (appendBelow Hr.out.new (by have := Hr.out.bel.size; simp; omega) hupd))⟩
      · rw [← hd, List.length_append, ← Hk.out]; rfl
      · rw [← hd, List.length_append, ← Hk.out, List.map_append]; exact hrow
    · have hpb := putB_high hx
      go_wp2_with (at_builtin; refine wp_append rfl (.tmp 10) (.tmp 15) 92 rfl 5 (.int .u8 0) 1 1 Try.underlying92 Try.infoByte rfl (by decide) rfl rfl (by rw [Hk.out]; exact Hr.out.row.alloc _) (RowAt.lit wr #[.int .u8 (X % 128 + 128)] 5 1 1 (by decide) rfl (by simp [Value.oneCell'])).sl (by have := HK.out; unfold maxLen; omega) (by have := HK.out; omega) ?_; intro a' c' w' hrow hupd hloc hnil)
      go_roundw
      case rel =>
        refine ⟨X / 128, done ++ [((X % 128 + 128 : Nat) : Int)], a', c', _, by simp, ?_, rfl, ?_, Hr.out.new.step Hr.out.bel.size (fun ad he => (hloc ad he).imp id (fun h => by simp at h; omega)), Hr.out.bel.trans (((Below.refl _ wr).alloc (Nat.le_refl _) _).mono Hr.out.bel.size |>.trans (appendBelow Hr.out.new (by have := Hr.out.bel.size; simp; omega) hupd)), ?_, by omega⟩
        · rw [Hk.out]; simp
        · rw [List.length_append, ← Hk.out, List.map_append]; exact hrow
        · have hd := Hr.out.eq
          rw [hpb] at hd
          rw [← hd]; simp
      case measure => simp [intOf]; omega
end Go.Proofs.Ytpbocficffbcbaa
