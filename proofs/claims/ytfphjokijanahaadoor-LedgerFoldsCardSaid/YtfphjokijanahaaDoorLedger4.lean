import Derived.Test.YtfphjokijanahaaDoorLedger3
namespace Go.Proofs.YtfphjokijanahaaDoor
open Go Go.RowKit
set_option linter.unusedVariables false

/-- Behind a call that hands back a new row with the cells xs. -/
def NewRow (w : World) (E : TypeId) (sz n : Nat) (nil : Prop) (xs : List Value) (e : Ending) (w' : World) : Prop :=
  ∃ a cap, e = .returned (.slice a n cap) ∧ RowAt w' E sz a n cap xs ∧ Fresh w.heap.size a ∧ Below w.heap.size w w' ∧ (a = none ↔ nil)

/-- Behind a call that makes a new ledger. -/
def NewLedger (w : World) (es : List Ent) (e : Ending) (w' : World) : Prop :=
  ∃ bl br ba cap, e = .returned (.pointer (some ⟨bl, 0, none⟩)) ∧ LedgerAt w' bl br es ba cap ∧ (∀ i, own3 bl br ba i → w.heap.size ≤ i) ∧ Below w.heap.size w w'

set_option maxHeartbeats 400000 in
theorem new_ (w : World) : Calls Tryd.prog 8 #[] w (NewLedger w []) := by
  have hmm := @run_makeMap Tryd.prog
  go_enter Tryd.func8, Tryd.ntmps8
  go_wp2_with fail
  go_ret
  refine ⟨w.heap.size + 1, w.heap.size, none, 0, by simp, ⟨?_, RowAt.null _ _ _, ⟨[], ?_, fun _ _ => rfl⟩, (fun ad he => by cases he), by omega⟩, ?_, ?_⟩
  · have := alloc_new (w.alloc (.map #[] 0)) (.cells #[.slice none 0 0, .map (some w.heap.size), .int .i64 (-1), .int .i64 (-1)] 56)
    simpa [worst] using this
  · exact alloc_obj (alloc_new w _)
  · rintro i (rfl | rfl | ⟨ad, he, _⟩)
    · omega
    · omega
    · cases he
  · exact ((Below.refl _ w).alloc (Nat.le_refl _) _).alloc (by simp) _

set_option maxHeartbeats 400000 in
theorem cloneEnt (w : World) (a : Option Addr) (n cap : Nat) (xs : List Value) (hx : SlAt w 4 a n cap xs) (hb : n * 32 ≤ 140737488355328) :
    Calls Tryd.prog 24 #[.slice a n cap] w (NewRow w 37 4 n (a = none) xs) := by
  have q : ∀ (w : World) (a : Option Addr) (n c n' c' : Nat), (binOp .eql 34 (.slice a n c) (.slice none n' c')).run Tryd.prog w = .ok (.bool a.isNone) w := fun w a n c n' c' => Lib.run_eql_slice_nil w _ _ a n c n' c' Tryd.underlying34
  rcases hx.form with ⟨rfl, rfl, rfl, rfl⟩ | ⟨ad, rfl⟩
  · go_enter Tryd.func24, Tryd.ntmps24
    go_wp2_with fail
    go_ret
    exact ⟨none, 0, rfl, RowAt.null _ _ _, (fun ad he => by cases he), Below.refl _ _, by simp⟩
  · go_enter Tryd.func24, Tryd.ntmps24
    go_wp2_with (at_builtin; refine wp_append rfl (.tmp 5) (.tmp 6) 34 rfl 37 (.agg #[.int .i64 0, .int .i64 0, .int .i64 0, .int .i64 0]) 4 32 Tryd.underlying34 Tryd.infoEntry rfl (by decide) rfl rfl (RowAt.lit w #[] _ 4 0 (Nat.zero_le _) rfl (by simp)) (hx.alloc _) (by have := hx.le; have := hx.max; omega) (by omega) ?_; intro a' cap' w' hrow hupd hloc hnil; simp only [Nat.zero_add, List.nil_append] at hrow)
    go_ret
    refine ⟨a', cap', rfl, hrow, fun ad he => ?_, ?_, ?_⟩
    · rcases hloc ad he with h | h
      · obtain rfl := Option.some.inj h
        exact Nat.le_refl _
      · simp at h
        omega
    · exact ((Below.refl _ w).alloc (Nat.le_refl _) _).trans (hupd.below (by simp) (fun k hk => by rintro ⟨ad, he, rfl⟩; obtain rfl := Option.some.inj he; simp at hk))
    · rw [hnil]
      simp

theorem entCap : (2 : Nat) ^ 40 = 1099511627776 := by decide
/-- A ledger stays within bounds. -/
theorem allOk (w : World) (bl br : Nat) (es : List Ent) (ba : Option Addr) (cap : Nat) (h : LedgerAt w bl br es ba cap) (hlen : es.length ≤ 1000) :
    Calls Tryd.prog 12 #[.pointer (some ⟨bl, 0, none⟩)] w (NewRow w 37 4 es.length (ba = none) (es.flatMap entC)) := by
  have y0 := obj_cell h.obj 0
  simp at y0
  go_enter Tryd.func12, Tryd.ntmps12
  go_wp2_with (go_at_call 24; refine (cloneEnt _ _ _ _ _ h.row.sl (by omega)).mono ?_; rintro e w' ⟨a, c, rfl, hr, hf, hb, hn⟩)
  go_ret
  exact ⟨a, c, rfl, hr, hf, hb, hn⟩
theorem allNil (w : World) : Calls Tryd.prog 12 #[.pointer none] w (fun e w' => e = .returned (.slice none 0 0) ∧ w = w') := by
  go_enter Tryd.func12, Tryd.ntmps12
  go_wp2_with fail
  go_ret
  exact ⟨rfl, rfl⟩
theorem lenOk (w : World) (bl br : Nat) (es : List Ent) (ba : Option Addr) (cap : Nat) (h : LedgerAt w bl br es ba cap) :
    Calls Tryd.prog 11 #[.pointer (some ⟨bl, 0, none⟩)] w (fun e w' => e = .returned (.int .i64 es.length) ∧ w = w') := by
  have y0 := obj_cell h.obj 0
  simp at y0
  go_enter Tryd.func11, Tryd.ntmps11
  go_wp2_with fail
  go_ret
  exact ⟨rfl, rfl⟩
theorem lenNil (w : World) : Calls Tryd.prog 11 #[.pointer none] w (fun e w' => e = .returned (.int .i64 0) ∧ w = w') := by
  go_enter Tryd.func11, Tryd.ntmps11
  go_wp2_with fail
  go_ret
  exact ⟨rfl, rfl⟩
theorem worst_bad (es : List Ent) (p : Int) (hp : ∀ e ∈ es, e.p = 0 ∨ e.p = 1) (h : p ≠ 0 ∧ p ≠ 1) : worst es p = -1 := by
  unfold worst
  generalize (-1 : Int) = a
  induction es generalizing a with
  | nil => rfl
  | cons e es ih =>
    have := hp e (by simp)
    simp only [List.foldl_cons]
    rw [if_neg (by omega)]
    exact ih (fun e he => hp e (by simp [he])) a
set_option maxHeartbeats 400000 in
theorem worstOk (w : World) (bl br : Nat) (es : List Ent) (ba : Option Addr) (cap : Nat) (p : Int) (h : LedgerAt w bl br es ba cap) (hp : ∀ e ∈ es, e.p = 0 ∨ e.p = 1) :
    Calls Tryd.prog 19 #[.pointer (some ⟨bl, 0, none⟩), .int .i64 p] w (fun e w' => e = .returned (.int .i64 (worst es p)) ∧ w = w') := by
  have y2 := obj_cell h.obj 2
  have y3 := obj_cell h.obj 3
  simp at y2 y3
  by_cases hq : p = 0 ∨ p = 1
  · have hd : decide (p = 0 ∨ p = 1) = true := by simpa using hq
    rcases hq with rfl | rfl
    all_goals
      go_enter Tryd.func19, Tryd.ntmps19
      go_wp2_with (go_at_call 22; refine (playerOk _ _).mono ?_; rintro e w' ⟨rfl, rfl⟩; rw [hd])
      go_ret
      exact ⟨rfl, rfl⟩
  · have hd : decide (p = 0 ∨ p = 1) = false := by simpa using hq
    rw [worst_bad es p hp (by omega)]
    clear hq
    go_enter Tryd.func19, Tryd.ntmps19
    go_wp2_with (go_at_call 22; refine (playerOk _ _).mono ?_; rintro e w' ⟨rfl, rfl⟩; rw [hd])
    go_ret
    exact ⟨rfl, rfl⟩
theorem worstNil (w : World) (p : Int) : Calls Tryd.prog 19 #[.pointer none, .int .i64 p] w (fun e w' => e = .returned (.int .i64 (-1)) ∧ w = w') := by
  go_enter Tryd.func19, Tryd.ntmps19
  go_wp2_with fail
  go_ret
  exact ⟨rfl, rfl⟩
end Go.Proofs.YtfphjokijanahaaDoor
