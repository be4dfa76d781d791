import Derived.Test.YtpbocficffbcbaaJAlive
namespace Go.Proofs.Ytpbocficffbcbaa
open Go Go.RowKit
set_option linter.unusedVariables false

theorem addErr_small {es l : List Ev} (h : es.length + l.length ≤ 60000) : addErr es l = chks l := by
  unfold addErr
  by_cases hc : chks l = 0
  · rw [if_pos hc, if_neg (by omega), hc]
  · rw [if_neg hc]
theorem addNext_ok {es l : List Ev} (h : addErr es l = 0) : addNext es l = es ++ l := if_pos h
theorem addNext_bad {es l : List Ev} (h : ¬ addErr es l = 0) : addNext es l = es := if_neg h

set_option maxRecDepth 100000 in
set_option maxHeartbeats 6400000 in
theorem walkJBack (w : World) (a0 a1 a2 : Option Addr) (n0 n1 n2 c0 c1 c2 : Nat) (l0 l1 l2 : List Ev) (h0 : SlAt w 6 a0 n0 c0 (evs l0)) (h1 : SlAt w 6 a1 n1 c1 (evs l1)) (h2 : SlAt w 6 a2 n2 c2 (evs l2))
    (z0 : n0 * 48 ≤ 140737488351232) (z1 : n1 * 48 ≤ 140737488351232) (z2 : n2 * 48 ≤ 140737488351232) :
    Calls Try.prog 6 #[.slice a0 n0 c0, .slice a1 n1 c1, .slice a2 n2 c2] w (fun e w' => e = .returned (.bool true) ∧ Below w.heap.size w w') := by
  have L0 := ev_len h0
  have L1 := ev_len h1
  have L2 := ev_len h2
  have m0 := h0.max
  have m1 := h1.max
  have m2 := h2.max
  have k0 := h0.le
  have k1 := h1.le
  have k2 := h2.le
  unfold maxLen at m0 m1 m2
  have H0 := Lib.hid L0
  have H1 := Lib.hid L1
  have H2 := Lib.hid L2
  clear L0 L1 L2
  go_enter Try.func6, Try.ntmps6
  go_wp2_with fail
  refine (aliveJ _).mono ?_
  rintro e w1 ⟨rfl, hb1⟩
  by_cases hbig : 100 < n0 + n1 + n2
  · go_wp2_with fail
    go_ret
    exact ⟨rfl, hb1⟩
  have g0 := h0.all hb1
  have g1 := h1.all hb1
  have g2 := h2.all hb1
  go_wp2_with fail
  refine (jnew _).mono ?_
  rintro e w2 ⟨bj, ea, ec, ma, mc, rfl, hj2, ho2, hb2⟩
  have b2 := hb1.trans (hb2.mono hb1.size)
  have ho2' : ∀ i, ownJ bj ea ma i → w.heap.size ≤ i := fun i hi => Nat.le_trans hb1.size (ho2 i hi)
  have d0 := h0.all b2
  go_wp2_with fail
  refine (add _ _ _ _ _ _ _ _ _ hj2 (by decide) _ _ _ l0 d0 (by omega)).mono ?_
  rintro e w3 ⟨ea3, ec3, ma3, mc3, rfl, hj3, hu3, hl3, hl3'⟩
  have ho3 := ownJ_step ho2' b2.size hl3 hl3'
  have b3 := b2.trans (ownJ_below hu3 ho2' b2.size)
  clear g0 g1 g2 d0
  by_cases he0 : addErr [] l0 = 0
  · rw [addNext_ok he0] at hj3
    rw [he0]
    have Hj3 := Lib.hid hj3
    have ez := errV_zero 32
    rw [ez]
    clear hj3 he0 ez
    simp only [List.nil_append] at Hj3
    go_wp2_with fail
    refine (show Calls Try.prog 34 _ w3 (JTo w3 bj ea3 ma3 l0 [(1, l0.length)] 1 (.int .i64 1)) from mark _ _ _ _ _ _ _ _ _ Hj3.out (by decide) (by decide) (by decide)).mono ?_
    rintro e w4 ⟨ea4, ec4, ma4, mc4, rfl, hj4, hu4, hl4, hl4'⟩
    have ho4 := ownJ_step (B := w.heap.size) ho3 b3.size hl4 hl4'
    have b4 := b3.trans (ownJ_below hu4 ho3 b3.size)
    have d1 := h1.all b4
    go_wp2_with fail
    refine (add _ _ _ _ _ _ _ _ _ hj4 (by have := H0.out; omega) _ _ _ l1 d1 (by omega)).mono ?_
    rintro e w5 ⟨ea5, ec5, ma5, mc5, rfl, hj5, hu5, hl5, hl5'⟩
    have ho5 := ownJ_step (B := w.heap.size) ho4 b4.size hl5 hl5'
    have b5 := b4.trans (ownJ_below hu5 ho4 b4.size)
    clear d1
    by_cases he1 : addErr l0 l1 = 0
    · rw [addNext_ok he1] at hj5
      rw [he1]
      have Hj5 := Lib.hid hj5
      have ez := errV_zero 32
      rw [ez]
      clear hj5 he1 ez
      go_wp2_with fail
      refine (show Calls Try.prog 34 _ w5 (JTo w5 bj ea5 ma5 (l0 ++ l1) [(1, l0.length), (2, (l0 ++ l1).length)] 2 (.int .i64 2)) from mark _ _ _ _ _ _ _ _ _ Hj5.out (by decide) (by decide) (by simp)).mono ?_
      rintro e w6 ⟨ea6, ec6, ma6, mc6, rfl, hj6, hu6, hl6, hl6'⟩
      have ho6 := ownJ_step (B := w.heap.size) ho5 b5.size hl6 hl6'
      have b6 := b5.trans (ownJ_below hu6 ho5 b5.size)
      have d2 := h2.all b6
      go_wp2_with fail
      refine (add _ _ _ _ _ _ _ _ _ hj6 (by have := H0.out; have := H1.out; simp; omega) _ _ _ l2 d2 (by omega)).mono ?_
      rintro e w7 ⟨ea7, ec7, ma7, mc7, rfl, hj7, hu7, hl7, hl7'⟩
      have ho7 := ownJ_step (B := w.heap.size) ho6 b6.size hl7 hl7'
      have b7 := b6.trans (ownJ_below hu7 ho6 b6.size)
      clear d2
      by_cases he2 : addErr (l0 ++ l1) l2 = 0
      · rw [addNext_ok he2] at hj7
        rw [he2]
        have ok7 : JOk (l0 ++ l1 ++ l2) [(1, l0.length), (2, (l0 ++ l1).length)] 2 := jok_add (jok_mark (last := 1) (jok_add (jok_mark (es := l0) (ms := []) (last := 0) (jok_add (es := []) jok_nil))))
        have hbk := backOk w7 bj (l0 ++ l1 ++ l2) [(1, l0.length), (2, (l0 ++ l1).length)] 2 ea7 ma7 ec7 mc7 hj7 ok7 (by simp) (by have := H0.out; have := H1.out; have := H2.out; simp; omega) 1 0 1 l0.length rfl rfl
        have ht : (l0 ++ l1 ++ l2).take l0.length = l0 := by rw [List.append_assoc, List.take_left]
        have hd : (l0 ++ l1 ++ l2).drop l0.length = l1 ++ l2 := by rw [List.append_assoc, List.drop_left]
        rw [ht, hd] at hbk
        have hil : (invs (l1 ++ l2)).length = n1 + n2 := by rw [invs_len, List.length_append, H1.out, H2.out]
        have Hj7 := Lib.hid hj7
        have Hbk := Lib.hid hbk
        have Hil := Lib.hid hil
        have ez := errV_zero 32
        rw [ez]
        clear hj7 he2 ez hbk ht hd hil ok7
        go_wp2_with fail
        refine Hbk.out.mono ?_
        rintro e w8 ⟨ea8, ec8, ma8, mc8, a8, c8, rfl, hj8, hr8, hf8, hu8, hl8, hl8', hno8⟩
        have b8 := b7.trans (ownJ_below hu8 ho7 b7.size)
        obtain ⟨l, hl⟩ : ∃ l, l = invs (l1 ++ l2) := ⟨_, rfl⟩
        rw [← hl] at hr8 ⊢
        have hll : l.length = n1 + n2 := by rw [hl]; exact Hil.out
        rw [hll] at hr8 ⊢
        have Hl := Lib.hid hl
        have Hr8 := Lib.hid hr8
        clear hl hll hr8
        go_wp2_with fail
        refine (jlen _ _ _ _ _ _ _ _ _ hj8).mono ?_
        rintro e w9 ⟨rfl, rfl⟩
        rw [H0.out]
        have e1 : ((n0 : Int) != (n0 : Int)) = false := by simp
        have e2 : ((n1 : Int) + (n2 : Int) != (n1 : Int) + (n2 : Int)) = false := by simp
        have d1 := h1.all b8
        have d2 := h2.all b8
        have hz8 := b8.size
        go_wp2_with (first
          | (at_builtin; refine wp_append rfl (.tmp 75) (.tmp 76) 40 rfl 64 (.agg #[.int .i64 0, .int .i64 0, .int .i64 0, .int .i64 0, .int .i64 0, .int .i64 0]) 6 48 Try.underlying40 Try.infoEv rfl (by decide) rfl rfl (RowAt.lit w8 #[] _ 6 0 (Nat.zero_le _) rfl (by simp)) (d1.alloc _) (by unfold maxLen; omega) (by omega) ?_; intro aA cA wA hrA huA hlA hnA; simp only [Nat.zero_add, List.nil_append] at hrA; have bA : Below w8.heap.size w8 wA := ((Below.refl _ w8).alloc (Nat.le_refl _) _).trans (huA.below (by simp) (fun k hk => by rintro ⟨ad, he, rfl⟩; obtain rfl := Option.some.inj he; simp at hk)); have fA : ∀ ad, aA = some ad → w8.heap.size ≤ ad.block := (fun ad he => by rcases hlA ad he with h | h; (obtain rfl := Option.some.inj h; exact Nat.le_refl _); (simp at h; omega)); have d2A := d2.all bA)
          | (at_builtin; refine wp_append rfl (.tmp 77) (.tmp 78) 40 rfl 64 (.agg #[.int .i64 0, .int .i64 0, .int .i64 0, .int .i64 0, .int .i64 0, .int .i64 0]) 6 48 Try.underlying40 Try.infoEv rfl (by decide) rfl rfl hrA d2A (by unfold maxLen; omega) (by omega) ?_; intro aB cB wB hrB huB hlB hnB))
        have bB : Below w8.heap.size w8 wB := bA.trans (huB.below bA.size (fun k hk => by rintro ⟨ad, he, rfl⟩; have := fA ad he; omega))
        have hrB' : RowAt wB 64 6 aB (n1 + n2) cB (evs (l1 ++ l2)) := by simpa [evs] using hrB
        have sB := hrB'.sl
        have s8 := Hr8.out.sl.all bB
        have b9 := b8.trans (bB.mono hz8)
        clear hrB hrB' hrA d1 d2 d2A
        refine (refInverts _ _ _ _ _ s8 (by omega)).mono ?_
        rintro e wC ⟨aC, cC, rfl, hrC, hfC, hbC⟩
        have sC := hrC.sl
        have sB' := sB.all hbC
        have b10 := b9.trans (hbC.mono b9.size)
        have hlC : (invs l).length = n1 + n2 := by rw [invs_len, Hl.out, Hil.out]
        rw [hlC] at sC ⊢
        have HlC := Lib.hid hlC
        clear hrC hlC sB s8
        go_wp2_with fail
        refine (refInverts _ _ _ _ _ sB' (by omega)).mono ?_
        rintro e wD ⟨aD, cD, rfl, hrD, hfD, hbD⟩
        have sD := hrD.sl
        have sC' := sC.all hbD
        have b11 := b10.trans (hbD.mono b10.size)
        rw [Hil.out] at sD ⊢
        rw [← Hl.out] at sD
        clear hrD sB' sC
        go_wp2_with fail
        refine (refInverts _ _ _ _ _ sD (by omega)).mono ?_
        rintro e wE ⟨aE, cE, rfl, hrE, hfE, hbE⟩
        have sE := hrE.sl
        have sC2 := sC'.all hbE
        have b12 := b11.trans (hbE.mono b11.size)
        rw [HlC.out] at sE ⊢
        clear hrE sC' sD
        go_wp2_with fail
        refine (events _ _ _ _ _ _ _ (invs l) (invs l) sC2 sE).mono ?_
        rintro e wF ⟨rfl, hqF⟩
        rw [show decide (invs l = invs l) = true by simp]
        have b13 := b12.trans ((hqF.below _).mono b12.size)
        go_wp2_with fail
        go_ret
        exact ⟨rfl, b13⟩
      · have ez := errV_pos 32 _ he2
        rw [ez]
        clear he2 ez hj7
        go_wp2_with fail
        go_ret
        exact ⟨rfl, b7⟩
    · have ez := errV_pos 32 _ he1
      rw [ez]
      clear he1 ez hj5
      go_wp2_with fail
      go_ret
      exact ⟨rfl, b5⟩
  · rw [addNext_bad he0] at hj3
    have ez := errV_pos 32 _ he0
    rw [ez]
    clear he0 ez
    go_wp2_with fail
    refine (jlen _ _ _ _ _ _ _ _ _ hj3).mono ?_
    rintro e w4 ⟨rfl, rfl⟩
    go_wp2_with fail
    go_ret
    exact ⟨rfl, b3⟩
end Go.Proofs.Ytpbocficffbcbaa
