import Derived.Test.YtpbocficffbcbaaDeal
import Derived.Test.YtpbocficffbcbaaListBack
namespace Go.Proofs.Ytpbocficffbcbaa
open Go Go.RowKit
set_option linter.unusedVariables false
set_option linter.unusedSimpArgs false

set_option maxRecDepth 100000 in
set_option maxHeartbeats 1600000 in
/-- From the comparison on: the answers are equal; the list, turned, is read against the list. -/
theorem listDeals (w : World) (a b : Option Addr) (n m ca cb : Nat) (zs os : List Int) (ha : SlAt w 1 a n ca (zs.map (.int .i64))) (hb : SlAt w 1 b m cb (os.map (.int .i64))) :
    Calls Try.prog 16 #[.slice a n ca, .slice b m cb] w (fun e w' => e = .returned (.bool true) ∧ Below w.heap.size w w') := by
  have hzl : zs.length = n := by simpa using ha.len
  have Hzl := Lib.hid hzl
  have hle1 := ha.le
  have hmx1 := ha.max
  have hle2 := hb.le
  have hmx2 := hb.max
  unfold maxLen at hmx1 hmx2
  clear hzl
  go_enter Try.func16, Try.ntmps16
  go_wp2_with fail
  refine (aliveList _).mono ?_
  rintro e w1 ⟨rfl, hb1⟩
  by_cases hn : (200 : Int) < (n : Int)
  · go_wp2_with fail
    go_ret
    exact ⟨rfl, hb1⟩
  by_cases hm : (200 : Int) < (m : Int)
  · go_wp2_with fail
    go_ret
    exact ⟨rfl, hb1⟩
  have hnb : decide ((200 : Int) < (n : Int)) = false := by simp; omega
  have hmb : decide ((200 : Int) < (m : Int)) = false := by simp; omega
  have hn2 : n ≤ 200 := by omega
  have hm2 : m ≤ 200 := by omega
  clear hn hm
  have HA1 := Lib.hid (ha.all hb1)
  have HO1 := Lib.hid (hb.all hb1)
  have B1 := Lib.hid hb1
  clear ha hb hb1
  go_wp2_with fail
  refine (deal _ _ _ _ _ _ _ zs os HA1.out HO1.out (by omega) (by omega)).mono ?_
  intro e w2 hd
  obtain ⟨hb2, hd⟩ := hd
  have HA2 := Lib.hid (HA1.out.all hb2)
  have HO2 := Lib.hid (HO1.out.all hb2)
  have B2 := Lib.hid (B1.out.trans (hb2.mono B1.out.size))
  have HD := Lib.hid hd
  have Q1 := Lib.hid (show ∃ v0 v1 : Value, e = .returned (.tuple #[v0, v1]) by rcases hd with ⟨_, a', c', h, _⟩ | ⟨_, h⟩; exact ⟨_, _, h⟩; exact ⟨_, _, h⟩)
  clear hd
  rcases HD.out with ⟨hok, a2, c2, rfl, hr2⟩ | ⟨hok, rfl⟩
  · have HR2 := Lib.hid hr2
    have Hok := Lib.hid hok
    clear hr2 hok HD Q1 hb2
    go_wp2_with fail
    refine (refDeal _ _ _ _ _ _ _ zs os HA2.out HO2.out (by omega) (by omega)).mono ?_
    intro e w3 hd
    obtain ⟨hb3, hd⟩ := hd
    have hd2 : ∃ a' c', e = .returned (.tuple #[.slice a' os.length c', .bool true]) ∧ RowAt w3 3 1 a' os.length c' ((dealOut zs os).map (.int .i64)) := by
      rcases hd with ⟨_, h⟩ | ⟨h, _⟩
      · exact h
      · exact absurd Hok.out h
    obtain ⟨a3, c3, rfl, hr3⟩ := hd2
    have HR3 := Lib.hid hr3
    have HR23 := Lib.hid (HR2.out.all hb3)
    have HA3 := Lib.hid (HA2.out.all hb3)
    have B3 := Lib.hid (B2.out.trans (hb3.mono B2.out.size))
    clear hd hr3 hb3
    go_wp2_with fail
    refine (reversed _ _ _ _ zs HA3.out (by omega)).mono ?_
    rintro e w4 ⟨a4, c4, rfl, hr4, hf4, hb4⟩
    have HR4 := Lib.hid hr4
    have HA4 := Lib.hid (HA3.out.all hb4)
    have S2 := Lib.hid (HR23.out.all hb4).sl
    have S3 := Lib.hid (HR3.out.all hb4).sl
    have B4 := Lib.hid (B3.out.trans (hb4.mono B3.out.size))
    clear hr4 hf4 hb4
    obtain ⟨on, hon⟩ : ∃ on, on = os.length := ⟨_, rfl⟩
    rw [← hon] at S2 S3 ⊢
    clear hon
    go_wp2_with (go_at_call 20; refine (ints _ _ _ _ _ _ _ (dealOut zs os) (dealOut zs os) S2.out S3.out).mono ?_; rintro e w5 ⟨rfl, hq⟩; simp only [decide_true]; have B5 := Lib.hid (B4.out.trans ((hq.below _).mono B4.out.size)); have HA5 := Lib.hid (HA4.out.all (hq.below _)); have HR5 := Lib.hid (HR4.out.all (hq.below _)); clear hq)
    go_loopw [63] (fun i wr => ∃ k : Nat, k ≤ n ∧ i = .int .i64 k ∧ Below w5.heap.size w5 wr) (fun i _ => n - (intOf i).toNat)
    case atStart => exact ⟨0, Nat.zero_le _, rfl, Below.refl _ _⟩
    case round =>
      obtain ⟨k, hk, rfl, hbel⟩ := hrel
      have HB := Lib.hid hbel
      by_cases hlt : k < n
      · obtain ⟨b5, o5, rfl, hb5, hc5⟩ := (HR5.out.sl.all hbel).nonempty (by omega)
        obtain ⟨b6, o6, rfl, hb6, hc6⟩ := (HA5.out.all hbel).nonempty (by omega)
        obtain ⟨q, hq⟩ : ∃ q : Nat, k + q + 1 = n := ⟨n - 1 - k, by omega⟩
        have hx := hc5 k _ (map_int_cell (by rw [List.length_reverse]; have := Hzl.out; omega))
        have hy := hc6 q _ (map_int_cell (by have := Hzl.out; omega))
        have hxy : zs.reverse.getD k 0 = zs.getD q 0 := by
          have h1 := Hzl.out
          simp only [List.getD_eq_getElem?_getD]
          rw [List.getElem?_reverse (by omega), show zs.length - 1 - k = q by omega]
        rw [hxy] at hx
        obtain ⟨z, hz⟩ : ∃ z, z = zs.getD q 0 := ⟨_, rfl⟩
        rw [← hz] at hx hy
        have hzz : (z != z) = false := by simp
        have hw1 : IntKind.i64.wrap ((n : Int) - 1) = (n : Int) - 1 := by simp [IntKind.wrap, IntKind.signed, IntKind.bits]; omega
        have hw2 : IntKind.i64.wrap ((n : Int) - 1 - (k : Int)) = (q : Int) := by rw [show (n : Int) - 1 - (k : Int) = (q : Int) by omega]; simp [IntKind.wrap, IntKind.signed, IntKind.bits]; omega
        have hw3 : (n : Int) - 1 - (k : Int) = (q : Int) := by omega
        have hq0 : (0 : Int) ≤ (q : Int) := by omega
        have hq1 : (q : Int) < (n : Int) := by omega
        have Hq := Lib.hid hq
        clear hc5 hc6 hxy hz hbel hq
        go_wp2_with fail
        go_quiet (fail)
        go_wp2_with fail
        go_roundw
        case rel => exact ⟨k + 1, by omega, by go_num, below_drewN HB.out _⟩
        case measure => simp [intOf]; omega
      · obtain rfl : k = n := by omega
        clear hbel
        go_wp2_with fail
        go_ret
        exact ⟨rfl, B5.out.trans (HB.out.mono B5.out.size)⟩
  · have Hok := Lib.hid hok
    have hv : errV 32 2 = .iface 32 (.int .i64 2) := rfl
    have cIs : ∀ w, Calls Try.prog 21 #[.iface 32 (.int .i64 2), .int .i64 2] w (fun x w' => x = .returned (.bool true) ∧ w = w') := fun w => isErr w 2 2
    rw [hv]
    clear hok HD Q1 hb2 hv
    go_wp2_with fail
    refine (refDeal _ _ _ _ _ _ _ zs os HA2.out HO2.out (by omega) (by omega)).mono ?_
    intro e w3 hd
    obtain ⟨hb3, hd⟩ := hd
    have hd2 : e = .returned (.tuple #[.slice none 0 0, .bool false]) := by
      rcases hd with ⟨h, _⟩ | ⟨_, h⟩
      · exact absurd h Hok.out
      · exact h
    subst hd2
    have HA3 := Lib.hid (HA2.out.all hb3)
    have B3 := Lib.hid (B2.out.trans (hb3.mono B2.out.size))
    clear hd hb3
    go_wp2_with fail
    refine (reversed _ _ _ _ zs HA3.out (by omega)).mono ?_
    rintro e w4 ⟨a4, c4, rfl, hr4, hf4, hb4⟩
    have HR4 := Lib.hid hr4
    have HA4 := Lib.hid (HA3.out.all hb4)
    have B4 := Lib.hid (B3.out.trans (hb4.mono B3.out.size))
    clear hr4 hf4 hb4
    go_wp2_with (first
      | (go_at_call 20; refine (ints _ none none 0 0 0 0 [] [] (SlAt.null _ _) (SlAt.null _ _)).mono ?_; rintro e w5 ⟨rfl, hq⟩; simp only [decide_true]; have B5 := Lib.hid (B4.out.trans ((hq.below _).mono B4.out.size)); have HA5 := Lib.hid (HA4.out.all (hq.below _)); have HR5 := Lib.hid (HR4.out.all (hq.below _)); clear hq)
      | (go_at_call 21; refine (cIs _).mono ?_; rintro e w' ⟨rfl, rfl⟩))
    go_loopw [63] (fun i wr => ∃ k : Nat, k ≤ n ∧ i = .int .i64 k ∧ Below w5.heap.size w5 wr) (fun i _ => n - (intOf i).toNat)
    case atStart => exact ⟨0, Nat.zero_le _, rfl, Below.refl _ _⟩
    case round =>
      obtain ⟨k, hk, rfl, hbel⟩ := hrel
      have HB := Lib.hid hbel
      by_cases hlt : k < n
      · obtain ⟨b5, o5, rfl, hb5, hc5⟩ := (HR5.out.sl.all hbel).nonempty (by omega)
        obtain ⟨b6, o6, rfl, hb6, hc6⟩ := (HA5.out.all hbel).nonempty (by omega)
        obtain ⟨q, hq⟩ : ∃ q : Nat, k + q + 1 = n := ⟨n - 1 - k, by omega⟩
        have hx := hc5 k _ (map_int_cell (by rw [List.length_reverse]; have := Hzl.out; omega))
        have hy := hc6 q _ (map_int_cell (by have := Hzl.out; omega))
        have hxy : zs.reverse.getD k 0 = zs.getD q 0 := by
          have h1 := Hzl.out
          simp only [List.getD_eq_getElem?_getD]
          rw [List.getElem?_reverse (by omega), show zs.length - 1 - k = q by omega]
        rw [hxy] at hx
        obtain ⟨z, hz⟩ : ∃ z, z = zs.getD q 0 := ⟨_, rfl⟩
        rw [← hz] at hx hy
        have hzz : (z != z) = false := by simp
        have hw1 : IntKind.i64.wrap ((n : Int) - 1) = (n : Int) - 1 := by simp [IntKind.wrap, IntKind.signed, IntKind.bits]; omega
        have hw2 : IntKind.i64.wrap ((n : Int) - 1 - (k : Int)) = (q : Int) := by rw [show (n : Int) - 1 - (k : Int) = (q : Int) by omega]; simp [IntKind.wrap, IntKind.signed, IntKind.bits]; omega
        have hw3 : (n : Int) - 1 - (k : Int) = (q : Int) := by omega
        have hq0 : (0 : Int) ≤ (q : Int) := by omega
        have hq1 : (q : Int) < (n : Int) := by omega
        have Hq := Lib.hid hq
        clear hc5 hc6 hxy hz hbel hq
        go_wp2_with fail
        go_quiet (fail)
        go_wp2_with fail
        go_roundw
        case rel => exact ⟨k + 1, by omega, by go_num, below_drewN HB.out _⟩
        case measure => simp [intOf]; omega
      · obtain rfl : k = n := by omega
        clear hbel
        go_wp2_with fail
        go_ret
        exact ⟨rfl, B5.out.trans (HB.out.mono B5.out.size)⟩
end Go.Proofs.Ytpbocficffbcbaa
