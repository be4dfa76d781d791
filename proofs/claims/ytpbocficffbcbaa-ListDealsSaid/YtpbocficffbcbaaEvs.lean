import Derived.Test.YtpbocficffbcbaaEv3
namespace Go.Proofs.Ytpbocficffbcbaa
open Go Go.RowKit
set_option linter.unusedVariables false

/-! ### slices of events -/
theorem cells_at {α : Type} (f : α → List Value) (n : Nat) (hn : ∀ a, (f a).length = n) : ∀ (l : List α) (i j : Nat) (d : α), i < l.length → j < n → (l.flatMap f)[i * n + j]? = (f (l.getD i d))[j]?
  | [], i, j, d, hi, _ => by simp at hi
  | a :: l, 0, j, d, hi, hj => by
    simp only [List.flatMap_cons, Nat.zero_mul, Nat.zero_add]
    rw [List.getElem?_append_left (by rw [hn]; exact hj)]
    simp
  | a :: l, i + 1, j, d, hi, hj => by
    simp only [List.flatMap_cons]
    rw [List.getElem?_append_right (by rw [hn, Nat.add_mul]; omega), hn, show (i + 1) * n + j - n = i * n + j by rw [Nat.add_mul]; omega, cells_at f n hn l i j d (by simpa using hi) hj]
    simp
theorem cells_len {α : Type} (f : α → List Value) (n : Nat) (hn : ∀ a, (f a).length = n) (l : List α) : (l.flatMap f).length = l.length * n := by
  induction l with
  | nil => simp
  | cons a l ih => simp [hn, ih, Nat.add_mul, Nat.add_comm]
theorem one_flat {α : Type} (f : α → List Value) (h1 : ∀ a, ∀ u ∈ f a, u.oneCell' = true) (l : List α) : ∀ u ∈ l.flatMap f, u.oneCell' = true := by
  intro u hu
  obtain ⟨a, _, ha⟩ := List.mem_flatMap.1 hu
  exact h1 a u ha
theorem one_ev (e : Ev) : ∀ u ∈ evC e, u.oneCell' = true := by simp [evC, Value.oneCell']
abbrev evs (l : List Ev) : List Value := l.flatMap evC
theorem ev_len {w : World} {a : Option Addr} {n cap : Nat} {l : List Ev} (h : SlAt w 6 a n cap (evs l)) : l.length = n := by
  have := h.len
  rw [cells_len evC 6 (fun _ => rfl)] at this
  omega
/-- The six cells of an event. -/
structure EvAt (w : World) (bl o : Nat) (e : Ev) : Prop where
  ck : w.cell? ⟨bl, o, none⟩ = some (.int .i64 e.k)
  ca : w.cell? ⟨bl, o + 1, none⟩ = some (.int .i64 e.a)
  cb : w.cell? ⟨bl, o + 2, none⟩ = some (.int .i64 e.b)
  cc : w.cell? ⟨bl, o + 3, none⟩ = some (.int .i64 e.c)
  cd : w.cell? ⟨bl, o + 4, none⟩ = some (.int .i64 e.d)
  ce : w.cell? ⟨bl, o + 5, none⟩ = some (.int .i64 e.e)
theorem ev_at {w : World} {a : Option Addr} {n cap k : Nat} {l : List Ev} (h : SlAt w 6 a n cap (evs l)) (hk : k < n) :
    ∃ b off e, a = some ⟨b, off, none⟩ ∧ l[k]? = some e ∧ b < w.heap.size ∧ EvAt w b (off + k * 6) e := by
  have hl := ev_len h
  obtain ⟨b, off, rfl, hb, hc⟩ := h.nonempty (by omega)
  have hk' : k < l.length := by omega
  have key := fun j hj => cells_at evC 6 (fun _ => rfl) l k j (l[k]) hk' hj
  have e : l.getD k l[k] = l[k] := by simp [List.getD, List.getElem?_eq_getElem hk']
  rw [e] at key
  refine ⟨b, off, l[k], rfl, List.getElem?_eq_getElem hk', hb, ⟨?_, ?_, ?_, ?_, ?_, ?_⟩⟩
  · exact hc (k * 6) _ (by rw [show k * 6 = k * 6 + 0 from rfl, key 0 (by decide)]; rfl)
  · exact hc (k * 6 + 1) _ (by rw [key 1 (by decide)]; rfl)
  · exact hc (k * 6 + 2) _ (by rw [key 2 (by decide)]; rfl)
  · exact hc (k * 6 + 3) _ (by rw [key 3 (by decide)]; rfl)
  · exact hc (k * 6 + 4) _ (by rw [key 4 (by decide)]; rfl)
  · exact hc (k * 6 + 5) _ (by rw [key 5 (by decide)]; rfl)
theorem ev_take {l : List Ev} {k : Nat} {e : Ev} (h : l[k]? = some e) : l.take (k + 1) = l.take k ++ [e] := by
  obtain ⟨hk, rfl⟩ := List.getElem?_eq_some_iff.1 h
  exact List.take_succ_eq_append_getElem hk
theorem ev_lt {l : List Ev} {k : Nat} {e : Ev} (h : l[k]? = some e) : k < l.length := (List.getElem?_eq_some_iff.1 h).1
theorem Try.infoEv : (Try.prog.info? 64).map (fun i => (i.zero, i.size, i.bytes)) = some (some (.agg #[.int .i64 0, .int .i64 0, .int .i64 0, .int .i64 0, .int .i64 0, .int .i64 0]), 6, 48) := by kernel_rfl

set_option maxHeartbeats 400000 in
theorem cloneEvs (w : World) (a : Option Addr) (n cap : Nat) (xs : List Value) (hx : SlAt w 6 a n cap xs) (hb : n * 48 ≤ 140737488355328) :
    Calls Try.prog 88 #[.slice a n cap] w (NewRow w 64 6 n (a = none) xs) := by
  have q : ∀ (w : World) (a : Option Addr) (n c n' c' : Nat), (binOp .eql 40 (.slice a n c) (.slice none n' c')).run Try.prog w = .ok (.bool a.isNone) w := fun w a n c n' c' => Lib.run_eql_slice_nil w _ _ a n c n' c' Try.underlying40
  rcases hx.form with ⟨rfl, rfl, rfl, rfl⟩ | ⟨ad, rfl⟩
  · go_enter Try.func88, Try.ntmps88
    go_wp2_with fail
    go_ret
    exact ⟨none, 0, rfl, RowAt.null _ _ _, (fun ad he => by cases he), Below.refl _ _, by simp⟩
  · go_enter Try.func88, Try.ntmps88
    go_wp2_with (at_builtin; refine wp_append rfl (.tmp 5) (.tmp 6) 40 rfl 64 (.agg #[.int .i64 0, .int .i64 0, .int .i64 0, .int .i64 0, .int .i64 0, .int .i64 0]) 6 48 Try.underlying40 Try.infoEv rfl (by decide) rfl rfl (RowAt.lit w #[] _ 6 0 (Nat.zero_le _) rfl (by simp)) (hx.alloc _) (by have := hx.le; have := hx.max; omega) (by omega) ?_; intro a' cap' w' hrow hupd hloc hnil; simp only [Nat.zero_add, List.nil_append] at hrow)
    go_ret
    refine ⟨a', cap', rfl, hrow, fun ad he => ?_, ?_, ?_⟩
    · rcases hloc ad he with h | h
      · obtain rfl := Option.some.inj h
        exact Nat.le_refl _
      · simp at h
        omega
    · exact ((Below.refl _ w).alloc (Nat.le_refl _) _).trans (hupd.below (by simp) (fun k hk => by rintro ⟨ad, he, rfl⟩; obtain rfl := Option.some.inj he; simp at hk))
    · rw [hnil]
      simp

theorem ev_equal (w : World) (x y : Ev) : (Op.equal 64 (evV x) (evV y)).run Try.prog w = .ok (decide (x = y)) w := by
  have ht : Try.prog.underlying 64 = some (.struct (Try.prog.fieldsOf 64)) := by simp [Program.fieldsOf, Try.underlying64]
  have hp : Try.prog.stoodInHeld 64 = false := by kernel_rfl
  unfold Op.equal Op.maxDepth
  rw [show (10000 : Nat) = 9999 + 1 from rfl, run_equalIn_struct w 9999 64 _ _ ht hp]
  obtain ⟨k, a, b, c, d, e⟩ := x
  obtain ⟨k', a', b', c', d', e'⟩ := y
  simp [Program.fieldsOf, Try.underlying64, Op.eqFields, go_sem]
  by_cases h1 : k = k' <;> by_cases h2 : a = a' <;> by_cases h3 : b = b' <;> by_cases h4 : c = c' <;> by_cases h5 : d = d' <;> by_cases h6 : e = e' <;> simp [h1, h2, h3, h4, h5, h6]
theorem ev_neq (w : World) (x y : Ev) : (binOp .neq 64 (evV x) (evV y)).run Try.prog w = .ok (.bool (decide (x ≠ y))) w := by
  simp [binOp, ev_equal, go_sem]
theorem ev_eql (w : World) (x y : Ev) : (binOp .eql 64 (evV x) (evV y)).run Try.prog w = .ok (.bool (decide (x = y))) w := by
  simp [binOp, ev_equal, go_sem]
end Go.Proofs.Ytpbocficffbcbaa
