import Derived.Test.YtfphjokijanahaaMatchRef
namespace Go.Proofs.Ytfphjokijanahaa
open Go Go.RowKit
set_option linter.unusedVariables false

theorem RefTo.of_below {w w1 w' : World} {a : Option Addr} {gs' : List Int} {g' code : Int} {e : Ending} (hb : Below w.heap.size w w1) (h : RefTo w1 a gs' g' code e w') : RefTo w a gs' g' code e w' := by
  obtain ⟨a', cap', rfl, hs, hb', hloc⟩ := h
  exact ⟨a', cap', rfl, hs, hb.trans (hb'.mono hb.size), fun ad he => (hloc ad he).imp id (fun h' => ⟨Nat.le_trans hb.size h'.1, h'.2⟩)⟩

set_option maxHeartbeats 800000 in
theorem refPenaltyLow (w : World) (a : Option Addr) (cap : Nat) (gs : List Int) (g p l : Int) (h : SlAt w 1 a gs.length cap (gs.map (.int .i64))) (hl : (p ≠ 0 ∧ p ≠ 1) ∨ l < 2 ∨ 3 < l) :
    Calls Try.prog 22 #[.agg #[.slice a gs.length cap, .int .i64 g], .int .i64 p, .int .i64 l] w (RefTo w a gs g (penErr gs g p l)) := by
  have c0 := (Below.refl w.heap.size w).alloc (Nat.le_refl _) (.cells #[.slice a gs.length cap, .int .i64 g] 42)
  by_cases h1 : p ≠ 0 ∧ p ≠ 1
  · rw [show penErr gs g p l = 1 from if_pos h1]
    have q1 : (p != 0) = true := by simp [h1.1]
    have q2 : (p != 1) = true := by simp [h1.2]
    clear h1 hl
    go_enter Try.func22, Try.ntmps22
    go_wp2_with fail
    refine bodyPost_ret (v := .tuple #[.agg #[.slice a gs.length cap, .int .i64 g], .int .i64 1]) (by simp [results, Try.results22, go_sem]) rfl (RefTo.same h (c0.alloc (by simp) _))
  · have hp : p = 0 ∨ p = 1 := by omega
    have hl' : l = 0 ∨ l = 1 ∨ (l ≠ 0 ∧ l ≠ 1 ∧ l ≠ 2 ∧ l ≠ 3 ∧ (l < 0 ∨ 3 < l)) ∨ (l < 0) := by omega
    by_cases h2 : l < 0 ∨ 3 < l
    · rw [show penErr gs g p l = 6 by unfold penErr; rw [if_neg h1, if_pos h2]]
      have q0 : (l == 0) = false := by simp; omega
      have q1 : (l == 1) = false := by simp; omega
      have q2 : (l == 2) = false := by simp; omega
      have q3 : (l == 3) = false := by simp; omega
      clear h1 h2 hl hl'
      rcases hp with rfl | rfl
      all_goals
        go_enter Try.func22, Try.ntmps22
        go_wp2_with fail
        refine bodyPost_ret (v := .tuple #[.agg #[.slice a gs.length cap, .int .i64 g], .int .i64 6]) (by simp [results, Try.results22, go_sem]) rfl (RefTo.same h (c0.alloc (by simp) _))
    · have hl2 : l = 0 ∨ l = 1 := by omega
      rw [show penErr gs g p l = 0 by unfold penErr; rw [if_neg h1, if_neg h2, if_pos (by omega)]]
      clear h1 h2 hl hl'
      rcases hp with rfl | rfl <;> rcases hl2 with rfl | rfl
      all_goals
        go_enter Try.func22, Try.ntmps22
        go_wp2_with fail
        refine bodyPost_ret (v := .tuple #[.agg #[.slice a gs.length cap, .int .i64 g], .int .i64 0]) (by simp [results, Try.results22, go_sem]) rfl (RefTo.same h (c0.alloc (by simp) _))

set_option maxHeartbeats 800000 in
theorem refPenaltyTwo (w : World) (a : Option Addr) (cap : Nat) (gs : List Int) (g p : Int) (h : SlAt w 1 a gs.length cap (gs.map (.int .i64))) (hn : gs.length ≤ 3) (hp : p = 0 ∨ p = 1) (hva : ∀ ad, a = some ad → ad.block < w.heap.size) :
    Calls Try.prog 22 #[.agg #[.slice a gs.length cap, .int .i64 g], .int .i64 p, .int .i64 2] w (RefTo w a (gameNext gs g (2 - p)) g (gameErr gs g (2 - p))) := by
  have c0 := (Below.refl w.heap.size w).alloc (Nat.le_refl _) (.cells #[.slice a gs.length cap, .int .i64 g] 42)
  have hb1 := alloc_new (w.alloc (.cells #[.slice a gs.length cap, .int .i64 g] 42)) (.cells #[.slice none 0 0, .int .i64 0] 42)
  rcases hp with rfl | rfl
  all_goals
    go_enter Try.func22, Try.ntmps22
    go_wp2_with fail
    refine (refGame _ _ _ _ _ _ ((h.alloc _).alloc _) hn).mono ?_
    rintro e w' ⟨a', cap', rfl, hs, hb, hloc⟩
    have ho1 := below_obj hb hb1 (by simp <;> omega)
    have hd0 := obj_cell ho1 0
    have hd1 := obj_cell ho1 1
    have hf0 := obj_free ho1 0
    have hf1 := obj_free ho1 1
    simp at hd0 hd1 hf0 hf1
    have c1 : Below w.heap.size w w' := (c0.alloc (by simp) _).trans (hb.mono (by simp <;> omega))
    have ea : ∀ ad, a' = some ad → ad.block ≠ w.heap.size + 1 := fun ad he => by
      rcases hloc ad he with h' | ⟨h', _⟩
      · have := hva ad h'
        omega
      · simp at h'
        omega
    go_wp2_with fail
    refine bodyPost_ret (v := .tuple #[.agg #[.slice a' _ cap', .int .i64 g], .int .i64 _]) (by simp [results, Try.results22, go_sem, hd0, hd1]) rfl ⟨a', cap', rfl, (hs.setCell _ (fun ad he _ => ea ad he) _).setCell _ (fun ad he _ => ea ad he) _, (c1.setCell (by simp) _).setCell (by simp) _, ?_⟩
    intro ad he
    rcases hloc ad he with h' | ⟨h', h2⟩
    · exact .inl h'
    · simp at h'
      exact .inr ⟨by omega, by simpa using h2⟩

set_option maxHeartbeats 800000 in
theorem refPenaltyThree (w : World) (a : Option Addr) (cap : Nat) (gs : List Int) (g p : Int) (h : SlAt w 1 a gs.length cap (gs.map (.int .i64))) (hn : gs.length ≤ 3) (hp : p = 0 ∨ p = 1) (hva : ∀ ad, a = some ad → ad.block < w.heap.size) :
    Calls Try.prog 22 #[.agg #[.slice a gs.length cap, .int .i64 g], .int .i64 p, .int .i64 3] w (RefTo w a gs (penGiv gs g p 3) (penErr gs g p 3)) := by
  have c0 := (Below.refl w.heap.size w).alloc (Nat.le_refl _) (.cells #[.slice a gs.length cap, .int .i64 g] 42)
  have hb0 := alloc_obj (x := .cells #[.slice none 0 0, .int .i64 0] 42) (alloc_new w (.cells #[.slice a gs.length cap, .int .i64 g] 42))
  have hb1 := alloc_new (w.alloc (.cells #[.slice a gs.length cap, .int .i64 g] 42)) (.cells #[.slice none 0 0, .int .i64 0] 42)
  have hp1 : ¬ (p ≠ 0 ∧ p ≠ 1) := by omega
  cases ho : over gs g with
  | true =>
    rw [show penGiv gs g p 3 = g by unfold penGiv; rw [if_neg hp1, ho]; simp, show penErr gs g p 3 = 14 by unfold penErr; rw [if_neg hp1, ho]; simp]
    clear hp1
    rcases hp with rfl | rfl
    all_goals
      go_enter Try.func22, Try.ntmps22
      go_wp2_with fail
      refine (refOver _ _ _ _ _ _ ((h.alloc _).alloc _) hn).mono ?_
      rintro e w' ⟨rfl, hb⟩
      have ho0 := below_obj hb hb0 (by simp <;> omega)
      have ho1 := below_obj hb hb1 (by simp <;> omega)
      have hc0 := obj_cell ho0 0
      have hc1 := obj_cell ho0 1
      have hd0 := obj_cell ho1 0
      have hd1 := obj_cell ho1 1
      have hf0 := obj_free ho1 0
      have hf1 := obj_free ho1 1
      simp at hc0 hc1 hd0 hd1 hf0 hf1
      have c1 : Below w.heap.size w w' := (c0.alloc (by simp) _).trans (hb.mono (by simp <;> omega))
      go_wp2_with fail
      refine bodyPost_ret (v := .tuple #[.agg #[.slice a gs.length cap, .int .i64 g], .int .i64 14]) (by simp [results, Try.results22, go_sem, hd0, hd1]) rfl (RefTo.same h ((c1.setCell (by simp) _).setCell (by simp) _))
  | false =>
    rw [show penGiv gs g p 3 = 2 - p by unfold penGiv; rw [if_neg hp1, ho]; simp, show penErr gs g p 3 = 0 by unfold penErr; rw [if_neg hp1, ho]; simp]
    clear hp1
    rcases hp with rfl | rfl
    all_goals
      go_enter Try.func22, Try.ntmps22
      go_wp2_with fail
      refine (refOver _ _ _ _ _ _ ((h.alloc _).alloc _) hn).mono ?_
      rintro e w' ⟨rfl, hb⟩
      have ho0 := below_obj hb hb0 (by simp <;> omega)
      have ho1 := below_obj hb hb1 (by simp <;> omega)
      have hc0 := obj_cell ho0 0
      have hc1 := obj_cell ho0 1
      have hd0 := obj_cell ho1 0
      have hd1 := obj_cell ho1 1
      have hf0 := obj_free ho1 0
      have hf1 := obj_free ho1 1
      simp at hc0 hc1 hd0 hd1 hf0 hf1
      have c1 : Below w.heap.size w w' := (c0.alloc (by simp) _).trans (hb.mono (by simp <;> omega))
      go_wp2_with fail
      refine bodyPost_ret (v := .tuple #[.agg #[.slice a gs.length cap, .int .i64 _], .int .i64 0]) (by simp [results, Try.results22, go_sem, hd0, hd1]) rfl (RefTo.same h ((c1.setCell (by simp) _).setCell (by simp) _))

theorem refPenalty (w : World) (a : Option Addr) (cap : Nat) (gs : List Int) (g p l : Int) (h : SlAt w 1 a gs.length cap (gs.map (.int .i64))) (hn : gs.length ≤ 3) (hva : ∀ ad, a = some ad → ad.block < w.heap.size) :
    Calls Try.prog 22 #[.agg #[.slice a gs.length cap, .int .i64 g], .int .i64 p, .int .i64 l] w (RefTo w a (penNext gs g p l) (penGiv gs g p l) (penErr gs g p l)) := by
  by_cases h1 : (p ≠ 0 ∧ p ≠ 1) ∨ l < 2 ∨ 3 < l
  · have e1 : penNext gs g p l = gs := by
      unfold penNext
      split
      · rfl
      · rw [if_neg (by omega)]
    have e2 : penGiv gs g p l = g := by
      unfold penGiv
      split
      · rfl
      · rw [if_neg (by omega)]
    rw [e1, e2]
    exact refPenaltyLow w a cap gs g p l h h1
  · have hp : ¬ (p ≠ 0 ∧ p ≠ 1) := by omega
    have hp' : p = 0 ∨ p = 1 := by omega
    have hl : l = 2 ∨ l = 3 := by omega
    rcases hl with rfl | rfl
    · have e1 : penNext gs g p 2 = gameNext gs g (2 - p) := by
        have q : ¬ (2 - p < 1 ∨ 3 < 2 - p) := by omega
        unfold penNext gameNext; rw [if_neg hp, if_neg q]; simp
      have e2 : penGiv gs g p 2 = g := by unfold penGiv; rw [if_neg hp]; simp
      have e3 : penErr gs g p 2 = gameErr gs g (2 - p) := by
        have q : ¬ (2 - p < 1 ∨ 3 < 2 - p) := by omega
        unfold penErr gameErr; rw [if_neg hp, if_neg q]; simp
      rw [e1, e2, e3]
      exact refPenaltyTwo w a cap gs g p h hn hp' hva
    · have e1 : penNext gs g p 3 = gs := by unfold penNext; rw [if_neg hp]; simp
      rw [e1]
      exact refPenaltyThree w a cap gs g p h hn hp' hva

theorem result_eq {gs : List Int} {g : Int} (b1 b2 b3 b4 : Bool) (h1 : over gs g = b1) (h2 : (g != 0) = b2) (h3 : (cnt 1 gs == cnt 2 gs) = b3) (h4 : decide (cnt 2 gs < cnt 1 gs) = b4) :
    result gs g = if !b1 then 0 else if b2 then g else if b3 then 3 else if b4 then 1 else 2 := by
  subst h1 h2 h3 h4
  unfold result
  cases over gs g
  · simp
  · by_cases hg : g = 0
    · subst hg
      simp
      repeat' split
      all_goals omega
    · simp [hg]

set_option maxHeartbeats 800000 in
theorem refResult (w : World) (a : Option Addr) (cap : Nat) (gs : List Int) (g : Int) (h : SlAt w 1 a gs.length cap (gs.map (.int .i64))) (hn : gs.length ≤ 3) :
    Calls Try.prog 24 #[.agg #[.slice a gs.length cap, .int .i64 g]] w (fun e w' => e = .returned (.int .i64 (result gs g)) ∧ Below w.heap.size w w') := by
  have c0 := (Below.refl w.heap.size w).alloc (Nat.le_refl _) (.cells #[.slice a gs.length cap, .int .i64 g] 42)
  have hb0 := alloc_new w (.cells #[.slice a gs.length cap, .int .i64 g] 42)
  have run : ∀ (b1 b2 b3 b4 : Bool), over gs g = b1 → (g != 0) = b2 → (cnt 1 gs == cnt 2 gs) = b3 → decide (cnt 2 gs < cnt 1 gs) = b4 →
      Calls Try.prog 24 #[.agg #[.slice a gs.length cap, .int .i64 g]] w (fun e w' => e = .returned (.int .i64 (if !b1 then 0 else if b2 then g else if b3 then 3 else if b4 then 1 else 2)) ∧ Below w.heap.size w w') := by
    intro b1 b2 b3 b4 h1 h2 h3 h4
    cases b1 <;> cases b2 <;> cases b3 <;> cases b4
    all_goals
      go_enter Try.func24, Try.ntmps24
      go_wp2_with fail
      refine (refScore _ _ _ _ _ _ (h.alloc _) hn).mono ?_
      rintro e w' ⟨rfl, hb⟩
      have ho0 := below_obj hb hb0 (by simp)
      have hc0 := obj_cell ho0 0
      have hc1 := obj_cell ho0 1
      simp at hc0 hc1
      have c1 : Below w.heap.size w w' := c0.trans (hb.mono (by simp))
      have hs := h.all c1
      go_wp2_with fail
      refine (refOver _ _ _ _ _ _ hs hn).mono ?_
      rintro e w2 ⟨rfl, hb2⟩
      have ho0 := below_obj hb2 ho0 (obj_lt ho0)
      have hd0 := obj_cell ho0 0
      have hd1 := obj_cell ho0 1
      simp at hd0 hd1
      go_wp2_with fail
      go_ret
      exact ⟨rfl, c1.trans (hb2.mono c1.size)⟩
  refine (run _ _ _ _ rfl rfl rfl rfl).mono ?_
  rintro e w' ⟨rfl, hb⟩
  exact ⟨by rw [result_eq (gs := gs) (g := g) _ _ _ _ rfl rfl rfl rfl], hb⟩
end Go.Proofs.Ytfphjokijanahaa
