import Derived.Test.YtfphjokijanahaaDoorLedger5
namespace Go.Proofs.YtfphjokijanahaaDoor
open Go Go.RowKit
set_option linter.unusedVariables false

def fulls (p k : Int) : Nat → List Ent
  | 0 => []
  | n + 1 => addNext (fulls p k n) p k n
theorem fulls_ok (p k : Int) (hp : 0 ≤ p ∧ p < 2) (hk : 0 ≤ k ∧ k < 6) : ∀ n, n ≤ 1000 → (fulls p k n).length = n
  | 0, _ => rfl
  | n + 1, h => by
    have ih := fulls_ok p k hp hk n (by omega)
    have he : addErr (fulls p k n) p k n = 0 := by
      unfold addErr
      rw [if_neg (by omega), if_neg (by omega), if_neg (by omega)]
    simp only [fulls, addNext]
    rw [if_pos he]
    simp [ih]
theorem fulls_err (p k : Int) (hp : 0 ≤ p ∧ p < 2) (hk : 0 ≤ k ∧ k < 6) (n : Nat) (h : n < 1000) : addErr (fulls p k n) p k n = 0 := by
  have ih := fulls_ok p k hp hk n (by omega)
  unfold addErr
  rw [if_neg (by omega), if_neg (by omega), if_neg (by omega)]
theorem fulls_full (p k m : Int) (hp : 0 ≤ p ∧ p < 2) (hk : 0 ≤ k ∧ k < 6) (hm : 0 ≤ m) : addErr (fulls p k 1000) p k m = 5 := by
  have ih := fulls_ok p k hp hk 1000 (by omega)
  unfold addErr
  rw [if_neg (by omega), if_neg (by omega), if_pos (by omega)]
theorem modu_bd (a : Int) (m : Int) (h0 : 0 < m) (h1 : m ≤ 1000) : 0 ≤ wrap64 ((IntKind.u64.wrap a).tmod m) ∧ wrap64 ((IntKind.u64.wrap a).tmod m) < m := by
  have hn : 0 ≤ IntKind.u64.wrap a := by simp [IntKind.wrap, IntKind.signed, IntKind.bits]; exact Int.emod_nonneg _ (by decide)
  have h2 := Int.tmod_nonneg m hn
  have h3 := Int.tmod_lt_of_pos (IntKind.u64.wrap a) h0
  generalize (IntKind.u64.wrap a).tmod m = x at *
  unfold wrap64
  omega

set_option maxRecDepth 100000 in
set_option maxHeartbeats 800000 in
theorem walkFull (w : World) (hk : KindsAt w) (a b c : Int) : Calls Tryd.prog 3 #[.int .i64 a, .int .i64 b, .int .i64 c] w (fun e w' => e = .returned (.bool true) ∧ Below w.heap.size w w') := by
  have hz := hk.pos
  have hx := modu_bd a 2 (by decide) (by decide)
  have hy := modu_bd b 6 (by decide) (by decide)
  have hm := modu_bd c 1000 (by decide) (by decide)
  go_enter Tryd.func3, Tryd.ntmps3
  go_wp2_with fail
  refine (aliveLedger _ hk).mono ?_
  rintro e w1 ⟨rfl, hb1⟩
  go_wp2_with fail
  generalize wrap64 ((IntKind.u64.wrap a).tmod 2) = p at *
  generalize wrap64 ((IntKind.u64.wrap b).tmod 6) = k at *
  refine (new_ _).mono ?_
  rintro e w2 ⟨bl, br, ba, cap, rfl, hl, hown, hb2⟩
  have hge := hb1.size
  have hown' := fun i hi => Nat.le_trans hge (hown i hi)
  have hbel := hb1.trans (hb2.mono hge)
  have Hl := Lib.hid hl
  clear hl hown hb2
  go_wp2_with fail
  go_loopw [26] (fun i wr => ∃ n : Nat, n ≤ 1000 ∧ i = .int .i64 n ∧ ∃ ba cap, LedgerAt wr bl br (fulls p k n) ba cap ∧ (∀ i, own3 bl br ba i → w.heap.size ≤ i) ∧ Below w.heap.size w wr) (fun i _ => 1000 - (intOf i).toNat)
  case atStart => exact ⟨0, by omega, rfl, ba, cap, Hl.out, hown', hbel⟩
  case round =>
    obtain ⟨n, hn, rfl, ba, cap, hl, hown, hbr⟩ := hrel
    by_cases hlt : n < 1000
    · have he := fulls_err p k hx hy n hlt
      go_wp2_with fail
      refine (addOwn w _ _ _ _ _ _ _ _ _ hl hk hown hbr).mono ?_
      rintro e w3 ⟨ba3, cap3, rfl, hl3, hown3, hb3, _⟩
      rw [he, if_pos rfl, addV, errV_zero]
      have H3 := Lib.hid hl3
      clear hl3 he
      generalize addLev (fulls p k n) p k = lv at *
      go_wp2_with fail
      go_roundw
      case rel => exact ⟨n + 1, by omega, by go_num, ba3, cap3, H3.out, hown3, hb3⟩
      case measure => simp [intOf]; omega
    · obtain rfl : n = 1000 := by omega
      go_wp2_with fail
      have he := fulls_full p k _ hx hy hm.1
      have hln := fulls_ok p k hx hy 1000 (by omega)
      generalize wrap64 ((IntKind.u64.wrap c).tmod 1000) = m at *
      refine (addOwn w _ _ _ _ _ _ _ _ _ hl hk hown hbr).mono ?_
      rintro e w3 ⟨ba3, cap3, rfl, hl3, hown3, hb3, _⟩
      rw [he, if_neg (by decide), addV]
      rw [show addNext (fulls p k 1000) p k m = fulls p k 1000 from if_neg (by rw [he]; decide)] at hl3
      have he2 : addErr (fulls p k 1000) 2 k 0 = 1 := if_pos (by omega)
      clear he
      go_wp2_with fail
      refine (addOwn w _ _ _ _ _ _ _ _ _ hl3 hk hown3 hb3).mono ?_
      rintro e w4 ⟨ba4, cap4, rfl, hl4, hown4, hb4, _⟩
      rw [he2, if_neg (by decide), addV]
      rw [show addNext (fulls p k 1000) 2 k 0 = fulls p k 1000 from if_neg (by rw [he2]; decide)] at hl4
      clear he2
      generalize fulls p k 1000 = es at *
      go_wp2_with (first
        | (go_at_call 10; refine (isErr _ _ _).mono ?_; rintro e w' ⟨rfl, rfl⟩)
        | (go_at_call 11; refine (lenOk _ _ _ _ _ _ hl4).mono ?_; rintro e w' ⟨rfl, rfl⟩))
      go_ret
      exact ⟨by simp, hb4⟩
end Go.Proofs.YtfphjokijanahaaDoor
