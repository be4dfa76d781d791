import Derived.Test.YtpbocficffbcbaaList3
namespace Go.Proofs.Ytpbocficffbcbaa
open Go Go.RowKit
set_option linter.unusedVariables false

set_option maxRecDepth 100000 in
set_option maxHeartbeats 1600000 in
theorem walkInserts (w : World) (a : Option Addr) (n cap : Nat) (zs : List Int) (h : SlAt w 1 a n cap (zs.map (.int .i64))) (at_ x : Int) :
    Calls Try.prog 3 #[.slice a n cap, .int .i64 at_, .int .i64 x] w (fun e w' => e = .returned (.bool true) ∧ Below w.heap.size w w') := by
  have hl := nil_of_len h
  by_cases hn : 300 < n
  · go_enter Try.func3, Try.ntmps3
    go_wp2_with fail
    refine (aliveList _).mono ?_
    rintro e w1 ⟨rfl, hb1⟩
    go_wp2_with fail
    go_ret
    exact ⟨rfl, hb1⟩
  have Hl := Lib.hid hl
  clear hl
  go_enter Try.func3, Try.ntmps3
  go_wp2_with fail
  refine (aliveList _).mono ?_
  rintro e w1 ⟨rfl, hb1⟩
  have h1 := h.all hb1
  go_wp2_with (at_builtin; refine wp_append rfl (.tmp 18) (.tmp 19) 22 rfl 3 (.int .i64 0) 1 8 Try.underlying22 Try.infoInt rfl (by decide) rfl rfl (RowAt.lit w1 #[] _ 1 0 (Nat.zero_le _) rfl (by simp)) (h1.alloc _) (by unfold maxLen; omega) (by omega) ?_; intro wa wc w2 hwas hupd2 hloc2 hnil2; simp only [Nat.zero_add, List.nil_append] at hwas)
  have b2 : Below w.heap.size w w2 := (hb1.alloc hb1.size _).trans (hupd2.below (by have := hb1.size; simp; omega) (fun k hk => by rintro ⟨ad, he, rfl⟩; obtain rfl := Option.some.inj he; have := hb1.size; simp at hk; omega))
  have h2 := h.all b2
  have hws := hwas.sl
  have hi := fun (w : World) => ints (w := w)
  clear hupd2 hloc2 hnil2 h1 hwas hi
  by_cases hbad : at_ < 0 ∨ (n : Int) < at_
  · refine (insBad _ _ _ _ _ _ hbad).mono ?_
    rintro e w' ⟨rfl, rfl⟩
    go_wp2_with fail
    refine (remBad _ _ _ _ _ (by omega)).mono ?_
    rintro e w' ⟨rfl, rfl⟩
    go_wp2_with fail
    refine (ints _ _ _ _ _ _ _ zs zs h2 hws).mono ?_
    rintro e w3 ⟨rfl, hq3⟩
    rw [show decide (zs = zs) = true by simp]
    have b3 := b2.trans ((hq3.below _).mono b2.size)
    have hb' : at_ < 0 ∨ (0 ≤ at_ ∧ (n : Int) < at_) := by omega
    rcases hb' with hb' | ⟨hb', hb''⟩
    all_goals
      go_wp2_with (go_at_call 21; refine (isErr _ _ _).mono ?_; rintro e w' ⟨rfl, rfl⟩)
      go_ret
      exact ⟨by simp, b3⟩
  · obtain ⟨i, rfl⟩ : ∃ i : Nat, at_ = i := ⟨at_.toNat, by omega⟩
    have hin : i ≤ n := by omega
    refine (insOk _ _ _ _ zs h2 (by omega) i hin x).mono ?_
    rintro e w3 ⟨aa, ac, rfl, hra, hfa, hb3⟩
    have b3 := b2.trans (hb3.mono b2.size)
    have hsa := hra.sl
    have hw3 := hws.all hb3
    have h3 := h.all b3
    clear hra
    go_wp2_with fail
    by_cases hend : i = n
    · subst hend
      refine (remBad _ _ _ _ _ (by omega)).mono ?_
      rintro e w' ⟨rfl, rfl⟩
      go_wp2_with fail
      refine (ints _ _ _ _ _ _ _ zs zs h3 hw3).mono ?_
      rintro e w4 ⟨rfl, hq4⟩
      rw [show decide (zs = zs) = true by simp]
      have b4 := b3.trans ((hq4.below _).mono b3.size)
      have h4 := h.all b4
      have hsa4 := hsa.all (hq4.below _)
      clear hsa hw3
      go_wp2_with fail
      refine (refIns _ _ _ _ zs h4 (by omega) i hin x).mono ?_
      rintro e w5 ⟨ra, rc, rfl, hrr, hfr, hb5⟩
      have b5 := b4.trans (hb5.mono b4.size)
      go_wp2_with fail
      refine (ints _ _ _ _ _ _ _ (insAt zs i x) (insAt zs i x) (hsa4.all hb5) hrr.sl).mono ?_
      rintro e w6 ⟨rfl, hq6⟩
      rw [show decide (insAt zs i x = insAt zs i x) = true by simp]
      have b6 := b5.trans ((hq6.below _).mono b5.size)
      clear hrr hsa4
      go_wp2_with (go_at_call 21; refine (isErr _ _ _).mono ?_; rintro e w' ⟨rfl, rfl⟩)
      go_ret
      exact ⟨by simp, b6⟩
    · have hlt : i < n := by omega
      have hne : ((i : Int) == (n : Int)) = false := by simp; omega
      refine (remOk _ _ _ _ zs h3 (by omega) i hlt).mono ?_
      rintro e w' ⟨ab, bc, rfl, hrb, hfb, hbb⟩
      have bb := b3.trans (hbb.mono b3.size)
      have h3' := h.all bb
      have hsb := hrb.sl
      have hsa' := hsa.all hbb
      have hw3' := hw3.all hbb
      clear hrb hsa hw3
      obtain ⟨z, hz⟩ : ∃ z, z = zs.getD i 0 := ⟨_, rfl⟩
      rw [← hz]
      have Hz := Lib.hid hz
      clear hz
      go_wp2_with fail
      refine (ints _ _ _ _ _ _ _ zs zs h3' hw3').mono ?_
      rintro e w4 ⟨rfl, hq4⟩
      rw [show decide (zs = zs) = true by simp]
      have b4 := bb.trans ((hq4.below _).mono bb.size)
      have h4 := h.all b4
      have hsa4 := hsa'.all (hq4.below _)
      have hsb4 := hsb.all (hq4.below _)
      clear hsa' hw3' hsb
      go_wp2_with fail
      refine (refIns _ _ _ _ zs h4 (by omega) i hin x).mono ?_
      rintro e w5 ⟨ra, rc, rfl, hrr, hfr, hb5⟩
      have b5 := b4.trans (hb5.mono b4.size)
      have hsb5 := hsb4.all hb5
      go_wp2_with fail
      refine (ints _ _ _ _ _ _ _ (insAt zs i x) (insAt zs i x) (hsa4.all hb5) hrr.sl).mono ?_
      rintro e w6 ⟨rfl, hq6⟩
      rw [show decide (insAt zs i x = insAt zs i x) = true by simp]
      have b6 := b5.trans ((hq6.below _).mono b5.size)
      have hsb6 := hsb5.all (hq6.below _)
      have h6 := h.all b6
      clear hrr hsa4 hsb4 hsb5
      obtain ⟨b, off, rfl, hb, hc⟩ := h6.nonempty (by omega)
      have hx : w6.cell? ⟨b, off + i, none⟩ = some (.int .i64 z) := by rw [Hz.out]; exact hc i _ (map_int_cell (by have := Hl.out; omega))
      clear hc
      go_wp2_with fail
      refine (refRem _ _ _ _ zs h6 (by omega) i hlt).mono ?_
      rintro e w7 ⟨rb, rbc, rfl, hrm, hfm, hb7⟩
      have b7 := b6.trans (hb7.mono b6.size)
      go_wp2_with fail
      refine (ints _ _ _ _ _ _ _ (remAt zs i) (remAt zs i) (hsb6.all hb7) hrm.sl).mono ?_
      rintro e w8 ⟨rfl, hq8⟩
      rw [show decide (remAt zs i = remAt zs i) = true by simp]
      have b8 := b7.trans ((hq8.below _).mono b7.size)
      go_wp2_with fail
      go_ret
      exact ⟨by simp, b8⟩
end Go.Proofs.Ytpbocficffbcbaa
