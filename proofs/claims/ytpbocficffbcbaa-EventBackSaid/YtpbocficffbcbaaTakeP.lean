import Derived.Test.YtpbocficffbcbaaTake
import Derived.Test.YtpbocficffbcbaaEvB
namespace Go.Proofs.Ytpbocficffbcbaa
open Go Go.RowKit
set_option linter.unusedVariables false

theorem zagI_stand (n : Int) : zagI (stand n).toNat = n := by
  unfold zagI stand
  split <;> split <;> omega
theorem takeS_put (l : List Int) : ∀ (m y i x : Nat), y ≤ m → x < 2 ^ (7 * i) → x + y * 2 ^ (7 * i) < 18446744073709551616 → (0 < y ∨ i = 0) → takeS (putB y ++ l) i x = (zagI (x + y * 2 ^ (7 * i)), i + (putB y).length, 0)
  | m, y, i, x, hm, hx, hy, h0 => by
    have hi : i < 10 := by
      rcases h0 with h0 | h0
      · rcases Nat.lt_or_ge i 10 with h | h
        · exact h
        · have h1 : 2 ^ 70 ≤ 2 ^ (7 * i) := Nat.pow_le_pow_right (by decide) (by omega)
          have := Nat.mul_le_mul h0 h1
          omega
      · omega
    have h9 : i = 9 → y ≤ 1 := by
      rintro rfl
      omega
    have e128 : 2 ^ (7 * (i + 1)) = 128 * 2 ^ (7 * i) := by rw [Nat.mul_add, Nat.pow_add, Nat.mul_comm]
    by_cases hlt : y < 128
    · rw [putB_low hlt]
      simp only [List.cons_append, List.nil_append, takeS, List.length_singleton]
      rw [if_neg (by omega), if_neg (by omega), if_neg (by omega), if_neg (by omega)]
      rw [show ((y : Int) % 128).toNat = y by omega]
    · match m, hm with
      | 0, hm => omega
      | m + 1, hm =>
        rw [putB_high hlt]
        simp only [List.cons_append, takeS, List.length_cons]
        have hc : (((y % 128 + 128 : Nat) : Int) % 128).toNat = y % 128 := by omega
        rw [if_neg (by omega), if_neg (by omega), if_pos (by omega), hc]
        have hsum : x + y % 128 * 2 ^ (7 * i) + y / 128 * 2 ^ (7 * (i + 1)) = x + y * 2 ^ (7 * i) := by
          rw [e128]
          have : y = y % 128 + y / 128 * 128 := by omega
          calc x + y % 128 * 2 ^ (7 * i) + y / 128 * (128 * 2 ^ (7 * i)) = x + (y % 128 + y / 128 * 128) * 2 ^ (7 * i) := by rw [Nat.add_mul, Nat.mul_assoc, Nat.add_assoc]
            _ = x + y * 2 ^ (7 * i) := by rw [← this]
        have hx2 : x + y % 128 * 2 ^ (7 * i) < 2 ^ (7 * (i + 1)) := by
          rw [e128]
          have : y % 128 * 2 ^ (7 * i) ≤ 127 * 2 ^ (7 * i) := Nat.mul_le_mul_right _ (by omega)
          omega
        rw [takeS_put l m (y / 128) (i + 1) (x + y % 128 * 2 ^ (7 * i)) (by omega) hx2 (by rw [hsum]; exact hy) (.inl (by omega)), hsum]
        simp
        omega
theorem takeS_num (l : List Int) (n : Int) (h1 : -9223372036854775808 ≤ n) (h2 : n ≤ 9223372036854775807) : takeS (putB (stand n).toNat ++ l) 0 0 = (n, (putB (stand n).toNat).length, 0) := by
  have := stand_range n h1 h2
  have h := takeS_put l (stand n).toNat (stand n).toNat 0 0 (Nat.le_refl _) (by decide) (by simp; omega) (.inr rfl)
  simp only [Nat.mul_zero, Nat.pow_zero, Nat.mul_one, Nat.zero_add] at h
  rw [h, zagI_stand]

/-- k numbers taken of bytes: they, the rest, the error. -/
def takeN : Nat → List Int → List Int × List Int × Int
  | 0, l => ([], l, 0)
  | k + 1, l => if (takeS l 0 0).2.2 ≠ 0 then ([], [], (takeS l 0 0).2.2) else ((takeS l 0 0).1 :: (takeN k (l.drop (takeS l 0 0).2.1)).1, (takeN k (l.drop (takeS l 0 0).2.1)).2)
theorem takeN_nums : ∀ (ns l : List Int), (∀ n ∈ ns, -9223372036854775808 ≤ n ∧ n ≤ 9223372036854775807) → takeN ns.length (numsB ns ++ l) = (ns, l, 0)
  | [], l, _ => rfl
  | n :: ns, l, h => by
    have hn := h n (by simp)
    have ih := takeN_nums ns l (fun x hx => h x (by simp [hx]))
    rw [show numsB (n :: ns) ++ l = putB (stand n).toNat ++ (numsB ns ++ l) by simp [numsB]]
    simp only [List.length_cons, takeN, takeS_num _ n hn.1 hn.2]
    simp [ih]
def ev0 : Ev := ⟨0, 0, 0, 0, 0, 0⟩
def evOf (l : List Int) : Ev := ⟨l.getD 0 0, l.getD 1 0, l.getD 2 0, l.getD 3 0, l.getD 4 0, l.getD 5 0⟩
/-- The event of bytes, the error. -/
def parseS (l : List Int) : Ev × Int :=
  if (takeN 6 l).2.2 ≠ 0 then (ev0, (takeN 6 l).2.2) else if (takeN 6 l).2.1 ≠ [] then (ev0, 3) else if chk (evOf (takeN 6 l).1) ≠ 0 then (ev0, chk (evOf (takeN 6 l).1)) else (evOf (takeN 6 l).1, 0)
theorem parseS_bytes (e : Ev) (h : EvR e) (hc : chk e = 0) : parseS (numsB (evN e)) = (e, 0) := by
  have := takeN_nums (evN e) [] h
  rw [List.append_nil] at this
  have h6 : (evN e).length = 6 := rfl
  rw [h6] at this
  have he : evOf (evN e) = e := rfl
  simp only [parseS, this, he, hc]
  simp
end Go.Proofs.Ytpbocficffbcbaa
