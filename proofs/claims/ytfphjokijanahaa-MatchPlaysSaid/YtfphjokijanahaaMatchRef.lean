import Derived.Test.YtfphjokijanahaaMatchStays
namespace Go.Proofs.Ytfphjokijanahaa
open Go Go.RowKit
set_option linter.unusedVariables false

abbrev docV (a : Option Addr) (n cap : Nat) (g : Int) : Value := .agg #[.slice a n cap, .int .i64 g]

set_option maxHeartbeats 400000 in
theorem refScore (w : World) (a : Option Addr) (n cap : Nat) (gs : List Int) (g : Int) (h : SlAt w 1 a n cap (gs.map (.int .i64))) (hn : n ≤ 3) :
    Calls Try.prog 23 #[.agg #[.slice a n cap, .int .i64 g]] w (fun e w' => e = .returned (.tuple #[.int .i64 (cnt 1 gs), .int .i64 (cnt 2 gs)]) ∧ Below w.heap.size w w') := by
  have hl : gs.length = n := by simpa using h.len
  have ha := h.alloc (.cells #[.slice a n cap, .int .i64 g] 42)
  go_enter Try.func23, Try.ntmps23
  go_wp2_with fail
  go_loop [4, 5, 11] (fun x y i => ∃ k : Nat, k ≤ n ∧ i = .int .i64 k ∧ x = .int .i64 (cnt 1 (gs.take k)) ∧ y = .int .i64 (cnt 2 (gs.take k))) (fun _ _ i => n - (intOf i).toNat)
  case atStart => exact ⟨0, Nat.zero_le _, rfl, rfl, rfl⟩
  case round =>
    obtain ⟨k, hk, rfl, rfl, rfl⟩ := hrel
    by_cases hlt : k < n
    · obtain ⟨b, off, rfl, hb, hc⟩ := ha.nonempty (by omega)
      have hx := hc k _ (map_int_cell (by omega))
      have hs1 := cnt_snoc 1 (gs.getD k 0) (gs.take k)
      have hs2 := cnt_snoc 2 (gs.getD k 0) (gs.take k)
      rw [← take_snoc gs k 0 (by omega)] at hs1 hs2
      have hb1 := cnt_bd 1 (gs.take k)
      have hb2 := cnt_bd 2 (gs.take k)
      have hlk : (gs.take k).length ≤ k := List.length_take_le _ _
      generalize gs.getD k 0 = x at *
      clear hc hl
      have H1 := Lib.hid hs1
      have H2 := Lib.hid hs2
      clear hs1 hs2
      by_cases h1 : x = 1
      · subst h1
        go_wp2
        go_round
        case rel => exact ⟨k + 1, by omega, by go_num, by rw [H1.out]; go_num, by rw [H2.out]; simp⟩
        case measure => simp [intOf]; omega
      · have h1b : (x == 1) = false := by simp [h1]
        by_cases h2 : x = 2
        · subst h2
          go_wp2
          go_round
          case rel => exact ⟨k + 1, by omega, by go_num, by rw [H1.out]; simp, by rw [H2.out]; go_num⟩
          case measure => simp [intOf]; omega
        · have h2b : (x == 2) = false := by simp [h2]
          have G1 := Lib.hid h1
          have G2 := Lib.hid h2
          clear h1 h2
          go_wp2
          go_round
          case rel => exact ⟨k + 1, by omega, by go_num, by rw [H1.out, if_neg G1.out]; simp, by rw [H2.out, if_neg G2.out]; simp⟩
          case measure => simp [intOf]; omega
    · obtain rfl : k = n := by omega
      have e1 := Lib.hid (show gs.take k = gs from List.take_of_length_le (by omega))
      clear hl
      go_wp2
      go_ret2
      exact ⟨by rw [e1.out]; rfl, (Below.refl _ w).alloc (Nat.le_refl _) _⟩

theorem over_eq {gs : List Int} {g : Int} (hn : gs.length ≤ 3) : over gs g = (decide (cnt 1 gs = 2) || decide (cnt 2 gs = 2) || decide (gs.length = 3) || decide (g ≠ 0)) := by
  have h1 := cnt_bd 1 gs
  have h2 := cnt_bd 2 gs
  rw [Bool.eq_iff_iff]
  simp [over]
  omega

set_option maxHeartbeats 400000 in
theorem refOver (w : World) (a : Option Addr) (n cap : Nat) (gs : List Int) (g : Int) (h : SlAt w 1 a n cap (gs.map (.int .i64))) (hn : n ≤ 3) :
    Calls Try.prog 26 #[.agg #[.slice a n cap, .int .i64 g]] w (fun e w' => e = .returned (.bool (over gs g)) ∧ Below w.heap.size w w') := by
  have hl : gs.length = n := by simpa using h.len
  have hov := Lib.hid (over_eq (g := g) (show gs.length ≤ 3 by omega))
  have hln := Lib.hid hl
  clear hl
  have ho := alloc_new w (.cells #[.slice a n cap, .int .i64 g] 42)
  have run : ∀ (b1 b2 b3 b4 : Bool), decide (cnt 1 gs = 2) = b1 → decide (cnt 2 gs = 2) = b2 → decide ((n : Int) = 3) = b3 → decide (g ≠ 0) = b4 →
      Calls Try.prog 26 #[.agg #[.slice a n cap, .int .i64 g]] w (fun e w' => e = .returned (.bool (b1 || b2 || b3 || b4)) ∧ Below w.heap.size w w') := by
    intro b1 b2 b3 b4 h1 h2 h3 h4
    have k1 : (cnt 1 gs == 2) = b1 := by rw [← h1, Bool.eq_iff_iff]; simp
    have k2 : (cnt 2 gs == 2) = b2 := by rw [← h2, Bool.eq_iff_iff]; simp
    have k3 : ((n : Int) == 3) = b3 := by rw [← h3, Bool.eq_iff_iff]; simp
    have k4 : (g != 0) = b4 := by rw [← h4, Bool.eq_iff_iff]; simp
    clear h1 h2 h3 h4
    cases b1 <;> cases b2 <;> cases b3 <;> cases b4
    all_goals
      go_enter Try.func26, Try.ntmps26
      go_wp2_with (go_at_call 23; refine (refScore _ _ _ _ _ _ (h.alloc _) hn).mono ?_; rintro e w' ⟨rfl, hb⟩; have ho' := below_obj hb ho (by simp); have hc0 := obj_cell ho' 0; have hc1 := obj_cell ho' 1; simp at hc0 hc1)
      go_ret
      exact ⟨rfl, ((Below.refl _ w).alloc (Nat.le_refl _) _).trans (hb.mono (by simp))⟩
  refine (run _ _ _ _ rfl rfl rfl rfl).mono ?_
  rintro e w' ⟨rfl, hb⟩
  refine ⟨?_, hb⟩
  rw [hov.out]
  have e3 : decide ((n : Int) = 3) = decide (gs.length = 3) := by rw [hln.out, Bool.eq_iff_iff]; simp; omega
  rw [e3]

/-- The document's match behind a call. -/
def RefTo (w : World) (a : Option Addr) (gs' : List Int) (g' code : Int) (e : Ending) (w' : World) : Prop :=
  ∃ a' cap', e = .returned (.tuple #[.agg #[.slice a' gs'.length cap', .int .i64 g'], .int .i64 code]) ∧ SlAt w' 1 a' gs'.length cap' (gs'.map (.int .i64)) ∧ Below w.heap.size w w' ∧ (∀ ad, a' = some ad → a = some ad ∨ (w.heap.size ≤ ad.block ∧ ad.block < w'.heap.size))

theorem RefTo.same {w w' : World} {a : Option Addr} {cap : Nat} {gs : List Int} {g code : Int} (h : SlAt w 1 a gs.length cap (gs.map (.int .i64))) (hb : Below w.heap.size w w') : RefTo w a gs g code (.returned (.tuple #[.agg #[.slice a gs.length cap, .int .i64 g], .int .i64 code])) w' :=
  ⟨a, cap, rfl, h.all hb, hb, fun _ he => .inl he⟩

theorem over_zero {gs : List Int} {g : Int} (h : over gs g = false) : g = 0 := by
  simp [over] at h; omega

set_option maxHeartbeats 800000 in
theorem refGame (w : World) (a : Option Addr) (cap : Nat) (gs : List Int) (g r : Int) (h : SlAt w 1 a gs.length cap (gs.map (.int .i64))) (hn : gs.length ≤ 3) :
    Calls Try.prog 21 #[.agg #[.slice a gs.length cap, .int .i64 g], .int .i64 r] w (RefTo w a (gameNext gs g r) g (gameErr gs g r)) := by
  have c0 := (Below.refl w.heap.size w).alloc (Nat.le_refl _) (.cells #[.slice a gs.length cap, .int .i64 g] 42)
  by_cases h1 : r < 1 ∨ 3 < r
  · rw [show gameNext gs g r = gs from if_pos h1, show gameErr gs g r = 6 from if_pos h1]
    have q1 : (r != 1) = true := by simp; omega
    have q2 : (r != 2) = true := by simp; omega
    have q3 : (r != 3) = true := by simp; omega
    clear h1
    go_enter Try.func21, Try.ntmps21
    go_wp2_with fail
    refine bodyPost_ret (v := .tuple #[.agg #[.slice a gs.length cap, .int .i64 g], .int .i64 6]) (by simp [results, Try.results21, go_sem]) rfl (RefTo.same h (c0.alloc (by simp) _))
  · have q0 : r = 1 ∨ r = 2 ∨ r = 3 := by omega
    cases ho : over gs g with
    | true =>
      rw [show gameNext gs g r = gs by unfold gameNext; rw [if_neg h1, ho]; rfl, show gameErr gs g r = 14 by unfold gameErr; rw [if_neg h1, ho]; rfl]
      clear h1
      have hb0 := alloc_obj (x := .cells #[.slice none 0 0, .int .i64 0] 42) (alloc_new w (.cells #[.slice a gs.length cap, .int .i64 g] 42))
      have hb1 := alloc_new (w.alloc (.cells #[.slice a gs.length cap, .int .i64 g] 42)) (.cells #[.slice none 0 0, .int .i64 0] 42)
      rcases q0 with rfl | rfl | rfl
      all_goals
        go_enter Try.func21, Try.ntmps21
        go_wp2_with (go_at_call 26; refine (refOver _ _ _ _ _ _ ((h.alloc _).alloc _) hn).mono ?_; rintro e w' ⟨rfl, hb⟩; have ho0 := below_obj hb hb0 (by simp <;> omega); have ho1 := below_obj hb hb1 (by simp <;> omega); have hc0 := obj_cell ho0 0; have hc1 := obj_cell ho0 1; have hf0 := obj_free ho1 0; have hf1 := obj_free ho1 1; have hd0 := obj_cell ho1 0; have hd1 := obj_cell ho1 1; simp at hc0 hc1 hf0 hf1 hd0 hd1)
        refine bodyPost_ret (v := .tuple #[.agg #[.slice a gs.length cap, .int .i64 g], .int .i64 14]) (by simp [results, Try.results21, go_sem, hd0, hd1]) rfl (RefTo.same h ?_)
        exact (((c0.alloc (by simp) _).trans (hb.mono (by simp <;> omega))).setCell (by simp) _).setCell (by simp) _
    | false =>
      have hg := over_zero ho
      subst hg
      have hlen := over_len ho
      rw [show gameNext gs 0 r = gs ++ [r] by unfold gameNext; rw [if_neg h1, ho]; rfl, show gameErr gs 0 r = 0 by unfold gameErr; rw [if_neg h1, ho]; rfl]
      clear h1
      have hb0 := alloc_obj (x := .cells #[.slice none 0 0, .int .i64 0] 42) (alloc_new w (.cells #[.slice a gs.length cap, .int .i64 0] 42))
      have hb1 := alloc_new (w.alloc (.cells #[.slice a gs.length cap, .int .i64 0] 42)) (.cells #[.slice none 0 0, .int .i64 0] 42)
      go_enter Try.func21, Try.ntmps21
      rcases q0 with rfl | rfl | rfl
      all_goals
        go_wp2_with fail
        refine (refOver _ _ _ _ _ _ ((h.alloc _).alloc _) hn).mono ?_
        rintro e w' ⟨rfl, hb⟩
        have ho0 := below_obj hb hb0 (by simp <;> omega)
        have ho1 := below_obj hb hb1 (by simp <;> omega)
        have hz : w.heap.size + 1 < w'.heap.size := by
          have := hb.size
          simp at this
          omega
        have hz0 : w.heap.size < w'.heap.size := by omega
        have hc0 := obj_cell ho0 0
        have hc1 := obj_cell ho0 1
        have hs := ((h.alloc _).alloc _).all hb
        simp at hc0 hc1
        have c1 : Below w.heap.size w w' := (c0.alloc (by simp) _).trans (hb.mono (by simp <;> omega))
        clear hb hb0 hb1
        go_wp2_with (first
          | (at_builtin; refine wp_append rfl (.tmp 20) (.tmp 22) 29 rfl 3 (.int .i64 0) 1 8 Try.underlying29 Try.infoInt rfl (by decide) rfl rfl (RowAt.lit w' #[] _ 1 0 (Nat.zero_le _) rfl (by simp)) (hs.alloc _) (by unfold maxLen; omega) (by omega) ?_; intro a2 cap2 w2 hrow hupd hloc hnil; simp only [Nat.zero_add, List.nil_append] at hrow; have ho2 := hupd.obj (alloc_obj ho1) (by rintro ⟨ad, he, hh⟩; obtain rfl := Option.some.inj he; simp at hh; omega); have hz2 : w'.heap.size < w2.heap.size := by (have := hupd.size; simp at this; omega))
          | (at_builtin; refine wp_append rfl (.tmp 23) (.tmp 25) 29 rfl 3 (.int .i64 0) 1 8 Try.underlying29 Try.infoInt rfl (by decide) rfl rfl (hrow.alloc _) (RowAt.lit w2 #[.int .i64 _] 3 1 1 (by decide) rfl (by simp [Value.oneCell'])).sl (by unfold maxLen; omega) (by omega) ?_; intro a3 cap3 w3 hrow3 hupd3 hloc3 hnil3; have ho3 := hupd3.obj (alloc_obj ho2) (by rintro ⟨ad, he, hh⟩; rcases hloc ad he with h' | h'; (obtain rfl := Option.some.inj h'; simp at hh; omega); (simp at h'; simp at hh; omega)); have hd0 := obj_cell ho3 0; have hd1 := obj_cell ho3 1; have hf0 := obj_free ho3 0; have hf1 := obj_free ho3 1; simp at hd0 hd1 hf0 hf1))
        have f2 := (fresh_new (show w.heap.size ≤ w'.heap.size by omega)).step (w := w'.alloc (.cells #[] 3)) (by simp <;> omega) hloc
        have c2 : Below w.heap.size w w2 := (c1.alloc (by omega) _).trans (appendBelow (fresh_new (show w.heap.size ≤ w'.heap.size by omega)) (by simp <;> omega) hupd)
        have c3 : Below w.heap.size w w3 := (c2.alloc (by omega) _).trans (appendBelow f2 (by simp <;> omega) hupd3)
        have f3 := f2.step (by simp <;> omega) hloc3
        have e3 : ∀ ad, a3 = some ad → ad.block ≠ w.heap.size + 1 := by
          intro ad he
          rcases hloc3 ad he with h' | h'
          · rcases hloc ad h' with h'' | h''
            · obtain rfl := Option.some.inj h''
              simp
              omega
            · simp at h''
              omega
          · simp at h'
            omega
        refine bodyPost_ret (v := .tuple #[.agg #[.slice a3 (gs.length + 1) cap3, .int .i64 0], .int .i64 0]) (by simp [results, Try.results21, go_sem, hd0, hd1]) rfl ⟨a3, cap3, by simp, ?_, (c3.setCell (by simp) _).setCell (by simp) _, fun ad he => .inr ⟨f3 ad he, by simpa using hrow3.lt ad he⟩⟩
        have hsl := (hrow3.sl.setCell ⟨w.heap.size + 1, 0, none⟩ (fun ad he _ => e3 ad he) (.slice a3 (gs.length + 1) cap3)).setCell ⟨w.heap.size + 1, 1, none⟩ (fun ad he _ => e3 ad he) (.int .i64 0)
        simpa using hsl
end Go.Proofs.Ytfphjokijanahaa
