import Derived.Test.YtfphjokijanahaaDoorLedger6
namespace Go.Proofs.YtfphjokijanahaaDoor
open Go Go.RowKit
set_option linter.unusedVariables false

/-! ### plain facts -/
theorem filt_filt (es : List Ent) (p : Int) (f : Ent → Bool) : (es.filter fun e => e.p == p).filter (fun e => e.p == p && f e) = es.filter (fun e => e.p == p && f e) := by
  rw [List.filter_filter]
  congr 1
  funext e
  cases (e.p == p) <;> simp
theorem apart_cnt (es : List Ent) (p k : Int) : cntk (es.filter fun e => e.p == p) p k = cntk es p k := by
  unfold cntk
  rw [filt_filt]
theorem apart_worst (es : List Ent) (p : Int) : worst (es.filter fun e => e.p == p) p = worst es p := by
  unfold worst
  generalize (-1 : Int) = a
  induction es generalizing a with
  | nil => rfl
  | cons e es ih =>
    by_cases h : e.p = p
    · rw [List.filter_cons_of_pos (by simp [h])]
      simp only [List.foldl_cons]
      exact ih _
    · rw [List.filter_cons_of_neg (by simp [h])]
      simp only [List.foldl_cons, if_neg h]
      exact ih _
theorem apart_lev (es : List Ent) (p k : Int) : addLev (es.filter fun e => e.p == p) p k = addLev es p k := by
  unfold addLev
  rw [apart_cnt, apart_worst]
theorem addErr_ok {es : List Ent} {p k t : Int} : addErr es p k t = 0 ↔ ((p = 0 ∨ p = 1) ∧ 0 ≤ t ∧ 0 ≤ k ∧ k < 6 ∧ es.length < 1000) := by
  unfold addErr
  constructor
  · intro h
    split at h
    · cases h
    · split at h
      · cases h
      · split at h
        · cases h
        · omega
  · intro h
    rw [if_neg (by omega), if_neg (by omega), if_neg (by omega)]
theorem apart_err {es : List Ent} {p k t : Int} (h : addErr es p k t = 0) (q : Int) : addErr (es.filter fun e => e.p == q) p k t = 0 := by
  rw [addErr_ok] at h ⊢
  have := List.length_filter_le (fun e : Ent => e.p == q) es
  omega
theorem addNext_ok {es : List Ent} {p k t : Int} (h : addErr es p k t = 0) : addNext es p k t = es ++ [⟨p, k, t, addLev es p k⟩] := if_pos h
theorem addNext_bad {es : List Ent} {p k t : Int} (h : addErr es p k t ≠ 0) : addNext es p k t = es := if_neg h
theorem apart_next {es : List Ent} {p k t : Int} (h : addErr es p k t = 0) : addNext (es.filter fun e => e.p == p) p k t = (es ++ [(⟨p, k, t, addLev es p k⟩ : Ent)]).filter fun e => e.p == p := by
  rw [addNext_ok (apart_err h p), apart_lev, List.filter_append]
  simp
theorem apart_rest {es : List Ent} {p q k t l : Int} (h : p ≠ q) : ((es ++ [(⟨p, k, t, l⟩ : Ent)]).filter fun e => e.p == q) = es.filter fun e => e.p == q := by
  rw [List.filter_append]
  simp [h]

theorem foldE_snoc : ∀ (l acc : List Ent) (r : List Ent) (e : Ent), foldE acc l = (r, 0) → addErr r e.p e.k e.t = 0 → foldE acc (l ++ [e]) = (addNext r e.p e.k e.t, 0)
  | [], acc, r, e, h, he => by
    simp only [foldE, Prod.mk.injEq, and_true] at h
    subst h
    simp only [List.nil_append, foldE]
    rw [if_pos he]
  | x :: l, acc, r, e, h, he => by
    simp only [foldE, List.cons_append] at h ⊢
    by_cases hx : addErr acc x.p x.k x.t = 0
    · rw [if_pos hx] at h ⊢
      exact foldE_snoc l _ r e h he
    · rw [if_neg hx] at h
      simp only [Prod.mk.injEq] at h
      exact absurd h.2 hx
/-- Entries that are their own fold. -/
def WF (es : List Ent) : Prop := foldE [] es = (es, 0) ∧ ∀ e ∈ es, e.p = 0 ∨ e.p = 1
theorem wf_nil : WF [] := ⟨rfl, by simp⟩
theorem WF.snoc {es : List Ent} {p k t : Int} (h : WF es) (he : addErr es p k t = 0) : WF (es ++ [⟨p, k, t, addLev es p k⟩]) := by
  refine ⟨?_, ?_⟩
  · have := foldE_snoc es [] es ⟨p, k, t, addLev es p k⟩ h.1 he
    rw [this]
    simp only
    rw [addNext_ok he]
  · intro e hm
    rcases List.mem_append.1 hm with hm | hm
    · exact h.2 e hm
    · simp at hm
      subst hm
      exact (addErr_ok.1 he).1

/-! ### entries side by side -/
theorem ent_neq (w : World) (a b c d : Int) : (binOp .neq 37 (.agg #[.int .i64 a, .int .i64 b, .int .i64 c, .int .i64 d]) (.agg #[.int .i64 a, .int .i64 b, .int .i64 c, .int .i64 d])).run Tryd.prog w = .ok (.bool false) w := by
  have ht : Tryd.prog.underlying 37 = some (.struct (Tryd.prog.fieldsOf 37)) := by simp [Program.fieldsOf, Tryd.underlying37]
  have hp : Tryd.prog.stoodInHeld 37 = false := by kernel_rfl
  have he : (Op.equal 37 (.agg #[.int .i64 a, .int .i64 b, .int .i64 c, .int .i64 d]) (.agg #[.int .i64 a, .int .i64 b, .int .i64 c, .int .i64 d])).run Tryd.prog w = .ok true w := by
    unfold Op.equal Op.maxDepth
    rw [show (10000 : Nat) = 9999 + 1 from rfl, run_equalIn_struct w 9999 37 _ _ ht hp]
    simp [Program.fieldsOf, Tryd.underlying37, Op.eqFields, go_sem]
  simp [binOp, he, go_sem]
end Go.Proofs.YtfphjokijanahaaDoor
