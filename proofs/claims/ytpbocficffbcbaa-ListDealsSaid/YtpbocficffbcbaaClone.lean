import Derived.Test.YtpbocficffbcbaaBase
import Derived.Test.YtpbocficffbcbaaProg
namespace Go.Proofs.Ytpbocficffbcbaa
open Go Go.RowKit
theorem Try.infoInt : (Try.prog.info? 3).map (fun i => (i.zero, i.size, i.bytes)) = some (some (.int .i64 0), 1, 8) := by kernel_rfl

/-- Behind a call that hands back a new row with the cells xs. -/
def NewRow (w : World) (E : TypeId) (sz n : Nat) (nil : Prop) (xs : List Value) (e : Ending) (w' : World) : Prop :=
  ∃ a cap, e = .returned (.slice a n cap) ∧ RowAt w' E sz a n cap xs ∧ Fresh w.heap.size a ∧ Below w.heap.size w w' ∧ (a = none ↔ nil)

set_option maxHeartbeats 400000 in
theorem cloneInts (w : World) (a : Option Addr) (n cap : Nat) (xs : List Value) (hx : SlAt w 1 a n cap xs) (hb : n * 8 ≤ 140737488355328) :
    Calls Try.prog 81 #[.slice a n cap] w (NewRow w 3 1 n (a = none) xs) := by
  have q : ∀ (w : World) (a : Option Addr) (n c n' c' : Nat), (binOp .eql 22 (.slice a n c) (.slice none n' c')).run Try.prog w = .ok (.bool a.isNone) w := fun w a n c n' c' => Lib.run_eql_slice_nil w _ _ a n c n' c' Try.underlying22
  rcases hx.form with ⟨rfl, rfl, rfl, rfl⟩ | ⟨ad, rfl⟩
  · go_enter Try.func81, Try.ntmps81
    go_wp2_with fail
    go_ret
    exact ⟨none, 0, rfl, RowAt.null _ _ _, (fun ad he => by cases he), Below.refl _ _, by simp⟩
  · go_enter Try.func81, Try.ntmps81
    go_wp2_with (at_builtin; refine wp_append rfl (.tmp 5) (.tmp 6) 22 rfl 3 (.int .i64 0) 1 8 Try.underlying22 Try.infoInt rfl (by decide) rfl rfl (RowAt.lit w #[] _ 1 0 (Nat.zero_le _) rfl (by simp)) (hx.alloc _) (by have := hx.le; have := hx.max; omega) (by omega) ?_; intro a' cap' w' hrow hupd hloc hnil; simp only [Nat.zero_add, List.nil_append] at hrow)
    go_ret
    refine ⟨a', cap', rfl, hrow, fun ad he => ?_, ?_, ?_⟩
    · rcases hloc ad he with h | h
      · obtain rfl := Option.some.inj h
        exact Nat.le_refl _
      · simp at h
        omega
    · exact ((Below.refl _ w).alloc (Nat.le_refl _) _).trans (hupd.below (by simp) (fun k hk => by rintro ⟨ad, he, rfl⟩; obtain rfl := Option.some.inj he; simp at hk))
    · rw [hnil]
      simp
end Go.Proofs.Ytpbocficffbcbaa
