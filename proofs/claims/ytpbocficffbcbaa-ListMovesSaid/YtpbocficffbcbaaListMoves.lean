import Derived.Test.YtpbocficffbcbaaListIdx
namespace Go.Proofs.Ytpbocficffbcbaa
open Go Go.RowKit
set_option linter.unusedVariables false

set_option maxRecDepth 100000 in
set_option maxHeartbeats 3200000 in
theorem walkMoves (w : World) (a : Option Addr) (n cap : Nat) (zs : List Int) (h : SlAt w 1 a n cap (zs.map (.int .i64))) (f t : Int) :
    Calls Try.prog 5 #[.slice a n cap, .int .i64 f, .int .i64 t] w (fun e w' => e = .returned (.bool true) ∧ Below w.heap.size w w') := by
  have hl := nil_of_len h
  by_cases hn : 300 < n
  · go_enter Try.func5, Try.ntmps5
    go_wp2_with fail
    refine (aliveList _).mono ?_
    rintro e w1 ⟨rfl, hb1⟩
    go_wp2_with fail
    go_ret
    exact ⟨rfl, hb1⟩
  have Hl := Lib.hid hl
  have hn' : n < 1000000 := by omega
  clear hl
  by_cases hbad : f < 0 ∨ (n : Int) ≤ f ∨ t < 0 ∨ (n : Int) ≤ t
  · have hb4 : f < 0 ∨ (0 ≤ f ∧ (n : Int) ≤ f) ∨ (0 ≤ f ∧ f < n ∧ t < 0) ∨ (0 ≤ f ∧ f < n ∧ 0 ≤ t ∧ (n : Int) ≤ t) := by omega
    have Hb := Lib.hid hbad
    clear hbad
    go_enter Try.func5, Try.ntmps5
    go_wp2_with fail
    refine (aliveList _).mono ?_
    rintro e w1 ⟨rfl, hb1⟩
    have h1 := h.all hb1
    go_wp2_with fail
    refine (moveBad _ _ _ _ zs h1 f t Hb.out).mono ?_
    rintro e w2 ⟨rfl, rfl⟩
    go_wp2_with fail
    refine (listIndex _ _ _ _ zs h1 f).mono ?_
    rintro e w2 ⟨rfl, rfl⟩
    go_wp2_with fail
    refine (refIndex _ _ _ _ zs h1 f).mono ?_
    rintro e w2 ⟨rfl, rfl⟩
    have hii : (idx zs f != idx zs f) = false := by simp
    generalize idx zs f = y at *
    go_wp2_with fail
    refine (listOnce _ _ _ _ zs h1).mono ?_
    rintro e w2 ⟨rfl, hb2⟩
    have b2 := hb1.trans (hb2.mono hb1.size)
    have h2 := h.all b2
    go_wp2_with fail
    refine (refOnce _ _ _ _ zs h2).mono ?_
    rintro e w3 ⟨rfl, rfl⟩
    have hdd : (decide zs.Nodup != decide zs.Nodup) = false := by simp
    generalize decide zs.Nodup = y2 at *
    rcases hb4 with hb4 | ⟨hb4, hb5⟩ | ⟨hb4, hb5, hb6⟩ | ⟨hb4, hb5, hb6, hb7⟩
    all_goals
      go_wp2_with fail
      refine (isErr _ _ _).mono ?_
      rintro e w' ⟨rfl, rfl⟩
      go_wp2_with fail
      go_ret
      exact ⟨by simp, b2⟩
  · obtain ⟨i, rfl⟩ : ∃ i : Nat, f = i := ⟨f.toNat, by omega⟩
    obtain ⟨j, rfl⟩ : ∃ j : Nat, t = j := ⟨t.toNat, by omega⟩
    have hi : i < n := by omega
    have hj : j < n := by omega
    clear hbad
    go_enter Try.func5, Try.ntmps5
    go_wp2_with fail
    refine (aliveList _).mono ?_
    rintro e w1 ⟨rfl, hb1⟩
    have h1 := h.all hb1
    go_wp2_with fail
    refine (moveOk _ _ _ _ zs h1 hn' i j hi hj).mono ?_
    rintro e w2 ⟨am, mc, rfl, hrm, hfm, hb2⟩
    have b2 := hb1.trans (hb2.mono hb1.size)
    have h2 := h.all b2
    have hsm := hrm.sl
    clear hrm h1
    go_wp2_with fail
    refine (listIndex _ _ _ _ zs h2 i).mono ?_
    rintro e w3 ⟨rfl, rfl⟩
    go_wp2_with fail
    refine (refIndex _ _ _ _ zs h2 i).mono ?_
    rintro e w3 ⟨rfl, rfl⟩
    have hii : (idx zs i != idx zs i) = false := by simp
    generalize idx zs i = y at *
    go_wp2_with fail
    refine (listOnce _ _ _ _ zs h2).mono ?_
    rintro e w3 ⟨rfl, hb3⟩
    have b3 := b2.trans (hb3.mono b2.size)
    have h3 := h.all b3
    have hsm3 := hsm.all hb3
    clear hsm
    go_wp2_with fail
    refine (refOnce _ _ _ _ zs h3).mono ?_
    rintro e w4 ⟨rfl, rfl⟩
    have hdd : (decide zs.Nodup != decide zs.Nodup) = false := by simp
    generalize decide zs.Nodup = y2 at *
    obtain ⟨b, off, rfl, hb, hc⟩ := h3.nonempty (by omega)
    have hx : w3.cell? ⟨b, off + i, none⟩ = some (.int .i64 (zs.getD i 0)) := hc i _ (map_int_cell (by have := Hl.out; omega))
    have hbw : b < w3.heap.size := hb
    obtain ⟨z, hz⟩ : ∃ z, z = zs.getD i 0 := ⟨_, rfl⟩
    rw [← hz] at hx
    have Hz := Lib.hid hz
    clear hc hz
    go_upto_region 10 with (fail)
    go_region_held3 (fun x => x.cell? ⟨b, off + i, none⟩ = some (.int .i64 z)) (first | exact hx | exact hx5 | exact hx6 | exact hx7)
      (first
        | (go_at_call 23; refine (refRem _ _ _ _ zs h3.drew hn' i hi).mono ?_; rintro e w5 ⟨ar, rc, rfl, hrr, hfr, hb5⟩; have hx5 := (World.cell?_of_block (hb5.block b hbw)).trans hx; have hsr := hrr.sl; have hm5 := hsm3.drew.all hb5)
        | (go_at_call 22; refine (refIns _ _ _ _ (remAt zs i) hsr (by omega) j (by omega) z).mono ?_; rintro e w6 ⟨ai, ic, rfl, hri, hfi, hb6⟩; have hx6 := (World.cell?_of_block (hb6.block b (by have h9 : w3.heap.size ≤ w5.heap.size := hb5.size; omega))).trans hx5; have hsi := hri.sl; have hm6 := hm5.all hb6)
        | (go_at_call 20; refine (ints _ _ _ _ _ _ _ (movAt zs i j) (insAt (remAt zs i) j z) hm6 hsi).mono ?_; rintro e w7 ⟨rfl, hq7⟩; have hx7 := (World.cell?_of_block ((hq7.below w6.heap.size).block b (by have h8 := hb6.size; have h9 : w3.heap.size ≤ w5.heap.size := hb5.size; omega))).trans hx6))
    have hmv : movAt zs i j = insAt (remAt zs i) j z := by rw [Hz.out]; rfl
    rw [show decide (movAt zs i j = insAt (remAt zs i) j z) = true by simpa using hmv]
    have b7 := ((b3.trans ((undrew hb5).mono b3.size)).trans (hb6.mono (by have h9 : w3.heap.size ≤ w5.heap.size := hb5.size; have h8 := b3.size; omega))).trans (hq7.below _)
    go_wp2_with fail
    go_ret
    exact ⟨rfl, b7⟩
end Go.Proofs.Ytpbocficffbcbaa
