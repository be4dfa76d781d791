import Derived.Test.YtpbocficffbcbaaWire
namespace Go.Proofs.Ytpbocficffbcbaa
open Go Go.RowKit
set_option linter.unusedVariables false

theorem Try.infoByte : (Try.prog.info? 5).map (fun i => (i.zero, i.size, i.bytes)) = some (some (.int .u8 0), 1, 1) := by kernel_rfl

set_option maxHeartbeats 400000 in
theorem cloneBytes (w : World) (a : Option Addr) (n cap : Nat) (xs : List Value) (hx : SlAt w 1 a n cap xs) (hb : n ≤ 140737488355328) :
    Calls Try.prog 120 #[.slice a n cap] w (NewRow w 5 1 n (a = none) xs) := by
  have q : ∀ (w : World) (a : Option Addr) (n c n' c' : Nat), (binOp .eql 92 (.slice a n c) (.slice none n' c')).run Try.prog w = .ok (.bool a.isNone) w := fun w a n c n' c' => Lib.run_eql_slice_nil w _ _ a n c n' c' Try.underlying92
  rcases hx.form with ⟨rfl, rfl, rfl, rfl⟩ | ⟨ad, rfl⟩
  · go_enter Try.func120, Try.ntmps120
    go_wp2_with fail
    go_ret
    exact ⟨none, 0, rfl, RowAt.null _ _ _, (fun ad he => by cases he), Below.refl _ _, by simp⟩
  · go_enter Try.func120, Try.ntmps120
    go_wp2_with (at_builtin; refine wp_append rfl (.tmp 5) (.tmp 6) 92 rfl 5 (.int .u8 0) 1 1 Try.underlying92 Try.infoByte rfl (by decide) rfl rfl (RowAt.lit w #[] _ 1 0 (Nat.zero_le _) rfl (by simp)) (hx.alloc _) (by have := hx.le; have := hx.max; omega) (by omega) ?_; intro a' cap' w' hrow hupd hloc hnil; simp only [Nat.zero_add, List.nil_append] at hrow)
    go_ret
    refine ⟨a', cap', rfl, hrow, fun ad he => ?_, ?_, ?_⟩
    · rcases hloc ad he with h | h
      · obtain rfl := Option.some.inj h
        exact Nat.le_refl _
      · simp at h
        omega
    · exact ((Below.refl _ w).alloc (Nat.le_refl _) _).trans (hupd.below (by simp) (fun k hk => by rintro ⟨ad, he, rfl⟩; obtain rfl := Option.some.inj he; simp at hk))
    · rw [hnil]
      simp

theorem RowAt.clip {w : World} {e : TypeId} {sz n cap : Nat} {a : Option Addr} {xs : List Value} (h : RowAt w e sz a n cap xs) : RowAt w e sz a n n xs where
  len := h.len
  le := Nat.le_refl _
  max := Nat.le_trans h.le h.max
  nil := fun he => by have := h.nil he; have := h.le; omega
  one := h.one
  row := fun ad he => by
    obtain ⟨h1, cur, h2, h3, h4⟩ := h.row ad he
    exact ⟨h1, cur, h2, Nat.le_trans (Nat.add_le_add_left (Nat.mul_le_mul_right sz h.le) _) h3, h4⟩

set_option maxHeartbeats 400000 in
theorem clipBytes (w : World) (a : Option Addr) (n cap : Nat) (xs : List Value) (hx : RowAt w 5 1 a n cap xs) :
    Calls Try.prog 119 #[.slice a n cap] w (fun x w' => x = .returned (.slice a n n) ∧ w = w') := by
  have hle := hx.le
  have hmax := hx.max
  rcases hx.sl.form with ⟨rfl, rfl, rfl, rfl⟩ | ⟨ad, rfl⟩
  · go_enter Try.func119, Try.ntmps119
    go_wp2
    go_ret
    exact ⟨rfl, rfl⟩
  · obtain ⟨b, off, sp⟩ := ad
    obtain ⟨hsp, _⟩ := hx.row _ rfl
    simp only at hsp
    subst hsp
    go_enter Try.func119, Try.ntmps119
    go_wp2
    go_ret
    exact ⟨rfl, rfl⟩

/-- The bytes of a number that is not below 0. -/
def putB (x : Nat) : List Int := if h : x < 128 then [(x : Int)] else (x % 128 + 128 : Nat) :: putB (x / 128)
termination_by x
decreasing_by omega
theorem putB_low {x : Nat} (h : x < 128) : putB x = [(x : Int)] := by rw [putB]; simp [h]
theorem putB_high {x : Nat} (h : ¬ x < 128) : putB x = ((x % 128 + 128 : Nat) : Int) :: putB (x / 128) := by rw [putB]; simp [h]
set_option maxRecDepth 100000 in
theorem or128 : ∀ b : Fin 256, bits .or .u8 (b.val : Int) 128 = ((b.val % 128 + 128 : Nat) : Int) := by decide
end Go.Proofs.Ytpbocficffbcbaa
