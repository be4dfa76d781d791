import Derived.Test.YtpbocficffbcbaaPut2
namespace Go.Proofs.Ytpbocficffbcbaa
open Go Go.RowKit
set_option linter.unusedVariables false

theorem or_byte (X : Nat) : bits .or .u8 ((X : Int) % 256) 128 = (X : Int) % 128 + 128 := by
  have := or128 ⟨X % 256, Nat.mod_lt _ (by decide)⟩
  simp only at this
  rw [show ((X : Int) % 256) = ((X % 256 : Nat) : Int) by omega, this]
  omega

set_option maxRecDepth 100000 in
set_option maxHeartbeats 800000 in
theorem wirePut (w : World) (a : Option Addr) (m cap : Nat) (l : List Int) (n : Int) (hl : SlAt w 1 a m cap (l.map (.int .u8))) (hlm : m ≤ 100000) (h1 : -9223372036854775808 ≤ n) (h2 : n ≤ 9223372036854775807) :
    Calls Try.prog 101 #[.slice a m cap, .int .i64 n] w (NewB w (l ++ putB (stand n).toNat)) := by
  obtain ⟨hs1, hs2⟩ := stand_range n h1 h2
  have hst := fun w => zig w n h1 h2
  generalize stand n = z at *
  obtain ⟨Z, rfl⟩ : ∃ Z : Nat, z = Z := ⟨z.toNat, by omega⟩
  have hZ : Z < 18446744073709551616 := by omega
  rw [Int.toNat_natCast]
  have hlen := putB_ten Z hZ
  have hm : m = l.length := by simpa using hl.len.symm
  have Hst := Lib.hid hst
  have Hlen := Lib.hid hlen
  have HZ := Lib.hid hZ
  have Hm := Lib.hid hm
  have Hl := Lib.hid hl
  clear hst hlen hZ hs1 hs2 hm hl
  go_enter Try.func101, Try.ntmps101
  go_wp2_with fail
  refine (cloneBytes _ _ _ _ _ Hl.out (by omega)).mono ?_
  rintro x w1 ⟨a1, c1, rfl, hr1, hf1, hb1, hn1⟩
  have Hr1 := Lib.hid hr1
  clear hr1 hn1
  go_wp2_with fail
  refine (clipBytes _ _ _ _ _ Hr1.out).mono ?_
  rintro x w2 ⟨rfl, rfl⟩
  go_wp2_with fail
  refine (Hst.out _).mono ?_
  rintro x w2 ⟨rfl, rfl⟩
  have Hf1 := Lib.hid hf1
  have Hb1 := Lib.hid hb1
  clear hf1 hb1
  go_wp2_with fail
  go_loopw [5, 6] (fun s x wr => ∃ (X : Nat) (done : List Int) (a : Option Addr) (c k : Nat), x = .int .u64 X ∧ k = done.length ∧ s = .slice a k c ∧ PutR w wr (l ++ putB Z) X done a c) (fun _ x _ => (intOf x).toNat)
  case atStart => exact ⟨Z, l, a1, m, m, rfl, Hm.out, rfl, by rw [← Hm.out]; exact Hr1.out.clip, Hf1.out, Hb1.out, rfl, HZ.out⟩
  case round =>
    obtain ⟨X, done, a, c, k, rfl, hk, rfl, hr⟩ := hrel
    have hX := hr.lt
    have hl := congrArg List.length hr.eq
    rw [List.length_append, List.length_append, ← Hm.out] at hl
    have hle := Hlen.out
    have Hr := Lib.hid hr
    have Hk := Lib.hid hk
    have hk10 : k + (putB X).length ≤ 100010 := by omega
    have HK := Lib.hid hk10
    clear hk hr hl hle hk10
    by_cases hx : X < 128
    · have hpb := putB_low hx
      have hlit : ((X : Int) % 256) = X := by omega
      go_wp2_with (at_builtin; refine wp_append rfl (.tmp 22) (.tmp 25) 92 rfl 5 (.int .u8 0) 1 1 Try.underlying92 Try.infoByte rfl (by decide) rfl rfl (by rw [Hk.out]; exact Hr.out.row.alloc _) (RowAt.lit wr #[.int .u8 X] 5 1 1 (by decide) rfl (by simp [Value.oneCell'])).sl (by have := HK.out; unfold maxLen; omega) (by have := HK.out; omega) ?_; intro a' c' w' hrow hupd hloc hnil)
      go_ret
      have hd := Hr.out.eq
      rw [hpb] at hd
      refine ⟨a', c', ?_, ?_, Hr.out.new.step Hr.out.bel.size (fun ad he => (hloc ad he).imp id (fun h => by simp at h; omega)), Hr.out.bel.trans (((Below.refl _ wr).alloc (Nat.le_refl _) _).mono Hr.out.bel.size |>.trans (appendBelow Hr.out.new (by have := Hr.out.bel.size; simp; omega) hupd))⟩
      · rw [← hd, List.length_append, ← Hk.out]; rfl
      · rw [← hd, List.length_append, ← Hk.out, List.map_append]; exact hrow
    · have hpb := putB_high hx
      have hor := or_byte X
      go_wp2_with (at_builtin; refine wp_append rfl (.tmp 16) (.tmp 20) 92 rfl 5 (.int .u8 0) 1 1 Try.underlying92 Try.infoByte rfl (by decide) rfl rfl (by rw [Hk.out]; exact Hr.out.row.alloc _) (RowAt.lit wr #[.int .u8 (X % 128 + 128)] 5 1 1 (by decide) rfl (by simp [Value.oneCell'])).sl (by have := HK.out; unfold maxLen; omega) (by have := HK.out; omega) ?_; intro a' c' w' hrow hupd hloc hnil)
      go_roundw
      case rel =>
        refine ⟨X / 128, done ++ [((X % 128 + 128 : Nat) : Int)], a', c', _, by simp, ?_, rfl, ?_, Hr.out.new.step Hr.out.bel.size (fun ad he => (hloc ad he).imp id (fun h => by simp at h; omega)), Hr.out.bel.trans (((Below.refl _ wr).alloc (Nat.le_refl _) _).mono Hr.out.bel.size |>.trans (appendBelow Hr.out.new (by have := Hr.out.bel.size; simp; omega) hupd)), ?_, by omega⟩
        · rw [Hk.out]; simp
        · rw [List.length_append, ← Hk.out, List.map_append]; exact hrow
        · have hd := Hr.out.eq
          rw [hpb] at hd
          rw [← hd]; simp
      case measure => simp [intOf]; omega
end Go.Proofs.Ytpbocficffbcbaa
