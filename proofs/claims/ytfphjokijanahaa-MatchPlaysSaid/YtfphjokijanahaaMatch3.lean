import Derived.Test.YtfphjokijanahaaMatch2
namespace Go.Proofs.Ytfphjokijanahaa
open Go Go.RowKit
set_option linter.unusedVariables false

def penErr (gs : List Int) (g p l : Int) : Int := if p ≠ 0 ∧ p ≠ 1 then 1 else if l < 0 ∨ 3 < l then 6 else if l < 2 then 0 else if over gs g then 14 else 0
def penNext (gs : List Int) (g p l : Int) : List Int := if p ≠ 0 ∧ p ≠ 1 then gs else if l = 2 then (if over gs g then gs else gs ++ [2 - p]) else gs
def penGiv (gs : List Int) (g p l : Int) : Int := if p ≠ 0 ∧ p ≠ 1 then g else if l = 3 then (if over gs g then g else 2 - p) else g

set_option maxHeartbeats 400000 in
theorem pen_low (w : World) (bm : Nat) (gs : List Int) (g p l : Int) (ba : Option Addr) (cap : Nat) (h : MatchAt w bm gs g ba cap) (hl : (p ≠ 0 ∧ p ≠ 1) ∨ l < 2 ∨ 3 < l) :
    Calls Try.prog 12 #[.pointer (some ⟨bm, 0, none⟩), .int .i64 p, .int .i64 l] w (MatchTo w bm ba gs g (errV 39 (penErr gs g p l))) := by
  by_cases h1 : p ≠ 0 ∧ p ≠ 1
  · rw [show penErr gs g p l = 1 from if_pos h1]
    have h1a : (p != 0) = true := by simp [h1.1]
    have h1b : (p != 1) = true := by simp [h1.2]
    clear h1
    go_enter Try.func12, Try.ntmps12
    go_wp2_with fail
    go_ret
    exact MatchTo.same h (Below.refl _ _) _
  · have hp : p = 0 ∨ p = 1 := by omega
    have hl' : l < 0 ∨ (0 ≤ l ∧ 3 < l) ∨ (0 ≤ l ∧ l < 2) := by omega
    rcases hl' with hl' | ⟨hl', hl2⟩ | ⟨hl', hl2⟩
    all_goals
      first
        | rw [show penErr gs g p l = 6 by unfold penErr; rw [if_neg h1, if_pos (by omega)]]
        | rw [show penErr gs g p l = 0 by unfold penErr; rw [if_neg h1, if_neg (by omega), if_pos (by omega)]]
      clear h1 hl
      rcases hp with rfl | rfl
      all_goals
        go_enter Try.func12, Try.ntmps12
        go_wp2_with fail
        go_ret
        exact MatchTo.same h (Below.refl _ _) _

theorem MatchTo.via {w w1 : World} {bm : Nat} {gs gs' : List Int} {g g' : Int} {ba : Option Addr} {cap : Nat} {v : Value} {e : Ending} {w' : World} (h : MatchAt w bm gs g ba cap) (k : Below w.heap.size w w1) (t : MatchTo w1 bm ba gs' g' v e w') : MatchTo w bm ba gs' g' v e w' := by
  obtain ⟨ba', cap', rfl, hm, hu, hloc⟩ := t
  exact ⟨ba', cap', rfl, hm, (Upd.of_below k).trans hu (fun _ _ h => h), fun ad he => (hloc ad he).imp id (fun h' => Nat.le_trans k.size h')⟩

set_option maxHeartbeats 400000 in
theorem pen_over (w : World) (bm : Nat) (gs : List Int) (g p l : Int) (ba : Option Addr) (cap : Nat) (h : MatchAt w bm gs g ba cap) (ok : Ok gs g) (hp : p = 0 ∨ p = 1) (hl : 2 ≤ l) (hl3 : l ≤ 3) (hov : over gs g = true) :
    Calls Try.prog 12 #[.pointer (some ⟨bm, 0, none⟩), .int .i64 p, .int .i64 l] w (MatchTo w bm ba gs g (errV 39 14)) := by
  rcases hp with rfl | rfl
  all_goals
    go_enter Try.func12, Try.ntmps12
    go_wp2_with (go_at_call 18; refine (decided _ _ _ _ _ _ h ok).mono ?_; rintro e w' ⟨rfl, hbel⟩)
    go_ret
    exact MatchTo.same h hbel _

set_option maxHeartbeats 400000 in
theorem pen_two (w : World) (bm : Nat) (gs : List Int) (g p : Int) (ba : Option Addr) (cap : Nat) (h : MatchAt w bm gs g ba cap) (ok : Ok gs g) (hp : p = 0 ∨ p = 1) (hov : over gs g = false) :
    Calls Try.prog 12 #[.pointer (some ⟨bm, 0, none⟩), .int .i64 p, .int .i64 2] w (MatchTo w bm ba (gs ++ [2 - p]) g (errV 39 0)) := by
  rcases hp with rfl | rfl
  all_goals
    go_enter Try.func12, Try.ntmps12
    go_wp2_with (first
      | (go_at_call 18; refine (decided _ _ _ _ _ _ h ok).mono ?_; rintro e w' ⟨rfl, hbel⟩)
      | (go_at_call 11; refine (game _ _ _ _ _ _ _ (h.all hbel) ok).mono ?_; rintro e w2 ⟨ba', cap', rfl, hm, hu, hloc⟩))
    go_ret
    simp [gameErr, gameNext, hov] at hm ⊢
    exact MatchTo.via h hbel ⟨ba', cap', rfl, hm, hu, hloc⟩

set_option maxHeartbeats 400000 in
theorem pen_three (w : World) (bm : Nat) (gs : List Int) (g p : Int) (ba : Option Addr) (cap : Nat) (h : MatchAt w bm gs g ba cap) (ok : Ok gs g) (hp : p = 0 ∨ p = 1) (hov : over gs g = false) :
    Calls Try.prog 12 #[.pointer (some ⟨bm, 0, none⟩), .int .i64 p, .int .i64 3] w (MatchTo w bm ba gs (2 - p) (errV 39 0)) := by
  rcases hp with rfl | rfl
  all_goals
    go_enter Try.func12, Try.ntmps12
    go_wp2_with (go_at_call 18; refine (decided _ _ _ _ _ _ h ok).mono ?_; rintro e w' ⟨rfl, hbel⟩; have hm' := h.all hbel; have hc1 := obj_cell hm'.obj 1; have hf1 := obj_free hm'.obj 1; simp at hc1)
    go_ret
    exact MatchTo.via h hbel ⟨ba, cap, rfl, ⟨by simpa using obj_set hm'.obj 1 _, hm'.row.setCell _ hm'.ne _, hm'.ne⟩, (Upd.refl _ _).setCell _ (fun _ => .inl rfl) _, fun _ he => .inl he⟩

theorem penalty (w : World) (bm : Nat) (gs : List Int) (g p l : Int) (ba : Option Addr) (cap : Nat) (h : MatchAt w bm gs g ba cap) (ok : Ok gs g) :
    Calls Try.prog 12 #[.pointer (some ⟨bm, 0, none⟩), .int .i64 p, .int .i64 l] w (MatchTo w bm ba (penNext gs g p l) (penGiv gs g p l) (errV 39 (penErr gs g p l))) := by
  by_cases h1 : (p ≠ 0 ∧ p ≠ 1) ∨ l < 2 ∨ 3 < l
  · have e1 : penNext gs g p l = gs := by
      unfold penNext
      split
      · rfl
      · rw [if_neg (by omega)]
    have e2 : penGiv gs g p l = g := by
      unfold penGiv
      split
      · rfl
      · rw [if_neg (by omega)]
    rw [e1, e2]
    exact pen_low w bm gs g p l ba cap h h1
  · have hp : ¬ (p ≠ 0 ∧ p ≠ 1) := by omega
    have hp' : p = 0 ∨ p = 1 := by omega
    have hl : l = 2 ∨ l = 3 := by omega
    cases hov : over gs g with
    | true =>
      have e1 : penNext gs g p l = gs := by unfold penNext; rw [if_neg hp, hov]; simp
      have e2 : penGiv gs g p l = g := by unfold penGiv; rw [if_neg hp, hov]; simp
      have e3 : penErr gs g p l = 14 := by unfold penErr; rw [if_neg hp, if_neg (by omega), if_neg (by omega), hov]; simp
      rw [e1, e2, e3]
      exact pen_over w bm gs g p l ba cap h ok hp' (by omega) (by omega) hov
    | false =>
      have e3 : penErr gs g p l = 0 := by unfold penErr; rw [if_neg hp, if_neg (by omega), if_neg (by omega), hov]; simp
      rw [e3]
      rcases hl with rfl | rfl
      · have e1 : penNext gs g p 2 = gs ++ [2 - p] := by unfold penNext; rw [if_neg hp, hov]; simp
        have e2 : penGiv gs g p 2 = g := by unfold penGiv; rw [if_neg hp]; simp
        rw [e1, e2]
        exact pen_two w bm gs g p ba cap h ok hp' hov
      · have e1 : penNext gs g p 3 = gs := by unfold penNext; rw [if_neg hp]; simp
        have e2 : penGiv gs g p 3 = 2 - p := by unfold penGiv; rw [if_neg hp, hov]; simp
        rw [e1, e2]
        exact pen_three w bm gs g p ba cap h ok hp' hov

/-! ### the result -/
def result (gs : List Int) (g : Int) : Int := if over gs g then (if g ≠ 0 then g else if cnt 2 gs < cnt 1 gs then 1 else if cnt 1 gs < cnt 2 gs then 2 else 3) else 0
set_option maxHeartbeats 400000 in
theorem resultOf (w : World) (bm : Nat) (gs : List Int) (g : Int) (ba : Option Addr) (cap : Nat) (h : MatchAt w bm gs g ba cap) (ok : Ok gs g) :
    Calls Try.prog 9 #[.pointer (some ⟨bm, 0, none⟩)] w (fun e w' => e = .returned (.int .i64 (result gs g)) ∧ Below w.heap.size w w') := by
  have hb := cnt_bd
  cases hov : over gs g with
  | false =>
    have hr := Lib.hid (show result gs g = 0 by simp [result, hov])
    go_enter Try.func9, Try.ntmps9
    go_wp2_with (go_at_call 18; refine (decided _ _ _ _ _ _ h ok).mono ?_; rintro e w' ⟨rfl, hbel⟩)
    go_ret
    exact ⟨by rw [hr.out]; rfl, hbel⟩
  | true =>
    by_cases h0 : g = 0
    · subst h0
      by_cases h1 : cnt 2 gs < cnt 1 gs
      · have hr := Lib.hid (show result gs 0 = 1 by simp [result, hov, h1])
        go_enter Try.func9, Try.ntmps9
        go_wp2_with (first
          | (go_at_call 18; refine (decided _ _ _ _ _ _ h ok).mono ?_; rintro e w' ⟨rfl, hbel⟩)
          | (go_at_call 17; refine (score _ _ _ _ _ _ (h.all hbel) ok.len ok.res).mono ?_; rintro e w2 ⟨rfl, hbel2⟩; have hc1 := obj_cell ((h.all hbel).all hbel2).obj 1; simp at hc1))
        go_ret
        exact ⟨by rw [hr.out]; rfl, hbel.trans (hbel2.mono hbel.size)⟩
      · by_cases h2 : cnt 1 gs < cnt 2 gs
        · have hr := Lib.hid (show result gs 0 = 2 by simp [result, hov, h1, h2])
          go_enter Try.func9, Try.ntmps9
          go_wp2_with (first
            | (go_at_call 18; refine (decided _ _ _ _ _ _ h ok).mono ?_; rintro e w' ⟨rfl, hbel⟩)
            | (go_at_call 17; refine (score _ _ _ _ _ _ (h.all hbel) ok.len ok.res).mono ?_; rintro e w2 ⟨rfl, hbel2⟩; have hc1 := obj_cell ((h.all hbel).all hbel2).obj 1; simp at hc1))
          go_ret
          exact ⟨by rw [hr.out]; rfl, hbel.trans (hbel2.mono hbel.size)⟩
        · have hr := Lib.hid (show result gs 0 = 3 by simp [result, hov, h1, h2])
          go_enter Try.func9, Try.ntmps9
          go_wp2_with (first
            | (go_at_call 18; refine (decided _ _ _ _ _ _ h ok).mono ?_; rintro e w' ⟨rfl, hbel⟩)
            | (go_at_call 17; refine (score _ _ _ _ _ _ (h.all hbel) ok.len ok.res).mono ?_; rintro e w2 ⟨rfl, hbel2⟩; have hc1 := obj_cell ((h.all hbel).all hbel2).obj 1; simp at hc1))
          go_ret
          exact ⟨by rw [hr.out]; rfl, hbel.trans (hbel2.mono hbel.size)⟩
    · have hr := Lib.hid (show result gs g = g by simp [result, hov, h0])
      have hg : (g != 0) = true := by simp [h0]
      clear h0
      go_enter Try.func9, Try.ntmps9
      go_wp2_with (first
        | (go_at_call 18; refine (decided _ _ _ _ _ _ h ok).mono ?_; rintro e w' ⟨rfl, hbel⟩)
        | (go_at_call 17; refine (score _ _ _ _ _ _ (h.all hbel) ok.len ok.res).mono ?_; rintro e w2 ⟨rfl, hbel2⟩; have hc1 := obj_cell ((h.all hbel).all hbel2).obj 1; simp at hc1))
      go_ret
      exact ⟨by rw [hr.out]; rfl, hbel.trans (hbel2.mono hbel.size)⟩
end Go.Proofs.Ytfphjokijanahaa
