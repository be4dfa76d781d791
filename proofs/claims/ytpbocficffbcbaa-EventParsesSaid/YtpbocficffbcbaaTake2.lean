import Derived.Test.YtpbocficffbcbaaTake
namespace Go.Proofs.Ytpbocficffbcbaa
open Go Go.RowKit
set_option linter.unusedVariables false

/-- Behind the document's Take. -/
def TakeR (w : World) (r : Int × Nat × Int) (x : Ending) (w' : World) : Prop := x = .returned (.tuple #[.int .i64 r.1, .int .i64 r.2.1, .int .i64 r.2.2]) ∧ w = w'

set_option maxRecDepth 100000 in
set_option maxHeartbeats 3200000 in
theorem refTake (w : World) (a : Option Addr) (n cap : Nat) (l : List Int) (h : SlAt w 1 a n cap (l.map (.int .u8))) (hb : ∀ c ∈ l, 0 ≤ c ∧ c < 256) (hn : n ≤ 1000) (r : Int × Nat × Int) (hr : r = takeS l 0 0) :
    Calls Try.prog 72 #[.slice a n cap] w (TakeR w r) := by
  have hl : l.length = n := by simpa using h.len
  have hle := h.le
  have Hr := Lib.hid hr
  have Hl := Lib.hid hl
  have Hb := Lib.hid hb
  have Hh := Lib.hid h
  have hcells : ∀ k, k < n → ∃ b off, a = some ⟨b, off, none⟩ ∧ ∀ j u, (l.map (Value.int .u8))[j]? = some u → w.cell? ⟨b, off + j, none⟩ = some u := fun k hk => by
    obtain ⟨b, off, h1, _, h2⟩ := h.nonempty (by omega)
    exact ⟨b, off, h1, h2⟩
  have Hc := Lib.hid hcells
  clear hr hl hb h hcells
  go_enter Try.func72, Try.ntmps72
  go_wp2_with fail
  go_loopw [7, 5, 6] (fun i x m wr => ∃ (k X W : Nat), k ≤ n ∧ k ≤ 9 ∧ i = .int .i64 k ∧ x = .int .u64 X ∧ m = .int .u64 W ∧ wr = w ∧ W = 2 ^ (7 * k) ∧ X < 2 ^ (7 * k) ∧ takeS (l.drop k) k X = r) (fun i _ _ _ => 10 - (intOf i).toNat)
  case atStart => exact ⟨0, 0, 1, by omega, by omega, rfl, rfl, rfl, rfl, by decide, by decide, Hr.out.symm⟩
  case round =>
    obtain ⟨k, X, W, hkn, hk9, rfl, rfl, rfl, rfl, hW, hX, hrel⟩ := hrel
    by_cases hlt : k < n
    · obtain ⟨b, off, rfl, hc⟩ := Hc.out k hlt
      have hlk : k < l.length := by rw [Hl.out]; exact hlt
      obtain ⟨hc0, hc1⟩ := Hb.out _ (List.getElem_mem hlk)
      obtain ⟨c, hce⟩ : ∃ c : Nat, l[k] = (c : Int) := ⟨l[k].toNat, by omega⟩
      have hcell := hc k (.int .u8 c) (by rw [List.getElem?_map, List.getElem?_eq_getElem hlk, hce]; rfl)
      have hcell9 : (k : Int) = 9 → wr.cell? ⟨b, off + 9, none⟩ = some (.int .u8 c) := fun h => by
        obtain rfl : k = 9 := by omega
        exact hcell
      rw [List.drop_eq_getElem_cons hlk, hce] at hrel
      rw [hce] at hc0 hc1
      have hc256 : c < 256 := by omega
      simp only [takeS] at hrel
      rw [if_neg (by omega), show ((c : Int) % 128).toNat = c % 128 by omega] at hrel
      clear hc hce
      by_cases hA : k = 9 ∧ 1 < c
      · rw [if_pos (by omega)] at hrel
        obtain ⟨rfl, hA2⟩ := hA
        have Hrel := Lib.hid hrel
        clear hrel hX hW
        go_wp2_with fail
        all_goals first
          | (exfalso; omega)
          | exact bodyPost_ret (v := .tuple #[.int .i64 0, .int .i64 0, .int .i64 2]) (by simp [results, Try.results72, go_sem]) rfl ⟨by rw [← Hrel.out]; rfl, rfl⟩
      · rw [if_neg (by omega)] at hrel
        obtain ⟨hy1, hy2, hy3⟩ := takeS_or X (c % 128) k hX (Nat.mod_lt _ (by decide)) (by omega)
        have hx2 : X + c % 128 * 2 ^ (7 * k) < 2 ^ (7 * (k + 1)) := by
          rw [Nat.mul_add, Nat.pow_add]
          have : c % 128 * 2 ^ (7 * k) ≤ 127 * 2 ^ (7 * k) := Nat.mul_le_mul_right _ (Nat.le_of_lt_succ (Nat.mod_lt _ (by decide)))
          omega
        have hW2 : 128 * W = 2 ^ (7 * (k + 1)) := by rw [hW, Nat.mul_add, Nat.pow_add]; omega
        have hW3 : k < 9 → 128 * W < 18446744073709551616 := fun h => by
          rw [hW2]
          exact Nat.lt_of_le_of_lt (Nat.pow_le_pow_right (by decide) (show 7 * (k + 1) ≤ 63 by omega)) (by decide)
        rw [← hW] at hy1 hy2 hx2 hrel
        have hmul : IntKind.u64.wrap ((W : Int) * ((c : Int) % 128)) = ((c % 128 * W : Nat) : Int) := by
          rw [show (W : Int) * ((c : Int) % 128) = ((c % 128 * W : Nat) : Int) by push_cast; rw [Int.mul_comm]]
          simp only [IntKind.wrap_u64]
          omega
        generalize c % 128 * W = M at *
        have hadd : IntKind.u64.wrap ((X : Int) + (M : Int)) = ((X + M : Nat) : Int) := by
          simp only [IntKind.wrap_u64]
          omega
        generalize X + M = Y at *
        have hk9' : k = 9 → c ≤ 1 := fun h => by omega
        clear hW hX hy3
        by_cases hB : 128 ≤ c
        · rw [if_pos (by omega)] at hrel
          have hWw : IntKind.u64.wrap ((W : Int) * 128) = ((128 * W : Nat) : Int) := by
            have := hW3 (by omega)
            simp only [IntKind.wrap_u64]
            omega
          have Hrel := Lib.hid hrel
          have Hx2 := Lib.hid hx2
          have HW2 := Lib.hid hW2
          clear hrel hx2 hW2 hW3
          go_wp2_with fail
          all_goals first
            | (exfalso; omega)
            | (go_roundw
               case rel => exact ⟨k + 1, Y, 128 * W, by omega, by omega, by go_num, by trivial, by trivial, by trivial, HW2.out, Hx2.out, Hrel.out⟩
               case measure => simp [intOf]; omega)
        · rw [if_neg (by omega)] at hrel
          by_cases hC : c = 0 ∧ 0 < k
          · rw [if_pos (by omega)] at hrel
            obtain ⟨rfl, hC2⟩ := hC
            have Hrel := Lib.hid hrel
            clear hrel hW2 hx2 hW3
            go_wp2_with fail
            all_goals first
              | (exfalso; omega)
              | exact bodyPost_ret (v := .tuple #[.int .i64 0, .int .i64 0, .int .i64 2]) (by simp [results, Try.results72, go_sem]) rfl ⟨by rw [← Hrel.out]; rfl, rfl⟩
          · rw [if_neg (by omega)] at hrel
            have Hrel := Lib.hid hrel
            clear hrel hW2 hx2 hW3
            rcases Nat.mod_two_eq_zero_or_one Y with hpar | hpar
            all_goals
              go_wp2_with fail
              all_goals first
                | (exfalso; omega)
                | skip
            all_goals
              refine bodyPost_ret (v := .tuple #[.int .i64 (zagI Y), .int .i64 ((k + 1 : Nat) : Int), .int .i64 0]) ?_ rfl ⟨by rw [← Hrel.out], rfl⟩
              unfold zagI
              simp [results, Try.results72, go_sem, hpar]
              try omega
    · have hkn2 : k = n := by omega
      subst hkn2
      rw [List.drop_eq_nil_of_le (by rw [Hl.out]; exact Nat.le_refl _)] at hrel
      have hr7 : r = (0, 0, 7) := hrel.symm
      subst hr7
      clear hrel hX hW
      go_wp2_with fail
      exact bodyPost_ret (v := .tuple #[.int .i64 0, .int .i64 0, .int .i64 7]) (by simp [results, Try.results72, go_sem]) rfl ⟨rfl, rfl⟩
end Go.Proofs.Ytpbocficffbcbaa
