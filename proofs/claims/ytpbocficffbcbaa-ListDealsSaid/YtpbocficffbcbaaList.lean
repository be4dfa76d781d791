import Derived.Test.YtpbocficffbcbaaSlices
import Derived.Test.YtpbocficffbcbaaInts
namespace Go.Proofs.Ytpbocficffbcbaa
open Go Go.RowKit
set_option linter.unusedVariables false

set_option maxHeartbeats 400000 in
theorem placeOk (w : World) (a : Option Addr) (n cap : Nat) (at_ : Int) : Calls Try.prog 79 #[.slice a n cap, .int .i64 at_] w (fun e w' => e = .returned (.bool (decide (0 ≤ at_ ∧ at_ < n))) ∧ w = w') := by
  generalize hq : decide (0 ≤ at_ ∧ at_ < (n : Int)) = q
  by_cases h0 : 0 ≤ at_
  · by_cases h1 : at_ < n
    · obtain rfl : q = true := by rw [← hq]; simp [h0, h1]
      clear hq
      go_enter Try.func79, Try.ntmps79
      go_wp2_with fail
      go_ret
      exact ⟨rfl, rfl⟩
    · obtain rfl : q = false := by rw [← hq]; simp [h1]
      clear hq
      go_enter Try.func79, Try.ntmps79
      go_wp2_with fail
      go_ret
      exact ⟨rfl, rfl⟩
  · obtain rfl : q = false := by rw [← hq]; simp [h0]
    clear hq
    go_enter Try.func79, Try.ntmps79
    go_wp2_with fail
    go_ret
    exact ⟨rfl, rfl⟩

theorem nil_of_len {w : World} {a : Option Addr} {n cap : Nat} {zs : List Int} (h : SlAt w 1 a n cap (zs.map (.int .i64))) : zs.length = n := by simpa using h.len

set_option maxHeartbeats 400000 in
theorem insBad (w : World) (a : Option Addr) (n cap : Nat) (at_ x : Int) (hb : at_ < 0 ∨ (n : Int) < at_) :
    Calls Try.prog 18 #[.slice a n cap, .int .i64 at_, .int .i64 x] w (fun e w' => e = .returned (.tuple #[.slice none 0 0, errV 32 1]) ∧ w = w') := by
  have hne : (at_ != (n : Int)) = true := by simp; omega
  have hd : decide (0 ≤ at_ ∧ at_ < (n : Int)) = false := by simp; omega
  go_enter Try.func18, Try.ntmps18
  go_wp2_with (go_at_call 79; refine (placeOk _ _ _ _ _).mono ?_; rintro e w' ⟨rfl, rfl⟩; rw [hd])
  go_ret2
  exact ⟨rfl, rfl⟩

/-- Behind a call that hands back a new list and no error. -/
def NewList (w : World) (n : Nat) (zs : List Int) (e : Ending) (w' : World) : Prop :=
  ∃ a c, e = .returned (.tuple #[.slice a n c, .nilIface]) ∧ RowAt w' 3 1 a n c (zs.map (.int .i64)) ∧ Fresh w.heap.size a ∧ Below w.heap.size w w'

set_option maxHeartbeats 400000 in
theorem insOk (w : World) (a : Option Addr) (n cap : Nat) (zs : List Int) (h : SlAt w 1 a n cap (zs.map (.int .i64))) (hn : n < 1000000) (i : Nat) (hi : i ≤ n) (x : Int) :
    Calls Try.prog 18 #[.slice a n cap, .int .i64 i, .int .i64 x] w (NewList w (n + 1) (insAt zs i x)) := by
  have hl := nil_of_len h
  have run : ∀ b : Bool, ((i : Int) != (n : Int)) = b → (b = true → decide (0 ≤ (i : Int) ∧ (i : Int) < (n : Int)) = true) →
      Calls Try.prog 18 #[.slice a n cap, .int .i64 i, .int .i64 x] w (NewList w (n + 1) (insAt zs i x)) := by
    intro b hne hd
    have Hl := Lib.hid hl
    clear hl
    cases b
    all_goals
      go_enter Try.func18, Try.ntmps18
      go_wp2_with (first
        | (go_at_call 79; refine (placeOk _ _ _ _ _).mono ?_; rintro e w' ⟨rfl, rfl⟩; rw [hd rfl])
        | (go_at_call 81; refine (cloneInts _ _ _ _ _ h (by omega)).mono ?_; rintro e w1 ⟨a1, c1, rfl, hr1, hf1, hb1, _⟩; have hv1 := alloc_new w1 (.cells #[.int .i64 x] 3)))
      refine (sInsert _ _ _ _ i zs w1.heap.size x (hr1.alloc _) hi hn hv1 (fun ad he => by have := hr1.lt ad he; omega)).mono ?_
      rintro e w2 ⟨a2, c2, rfl, hr2, hu2, hloc2⟩
      rw [Hl.out] at hr2 ⊢
      have f2 : Fresh w.heap.size a2 := by
        rcases hloc2 with rfl | h2
        · exact hf1
        · exact h2.mono (by simp; have := hb1.size; omega)
      have b2 : Below w.heap.size w w2 := (hb1.alloc hb1.size _).trans (hu2.below (by simp; have := hb1.size; omega) (fun k hk => by rintro ⟨ad, he, rfl⟩; have := hf1 ad he; omega))
      clear hr1 hu2 hloc2 hv1
      go_wp2_with fail
      go_ret2
      exact ⟨a2, c2, rfl, hr2, f2, b2⟩
  by_cases he : i = n
  · exact run false (by simp [he]) (fun h => by cases h)
  · exact run true (by simp; omega) (fun _ => by simp; omega)

set_option maxHeartbeats 400000 in
theorem remBad (w : World) (a : Option Addr) (n cap : Nat) (at_ : Int) (hb : at_ < 0 ∨ (n : Int) ≤ at_) :
    Calls Try.prog 19 #[.slice a n cap, .int .i64 at_] w (fun e w' => e = .returned (.tuple #[.slice none 0 0, .int .i64 0, errV 32 1]) ∧ w = w') := by
  have hd : decide (0 ≤ at_ ∧ at_ < (n : Int)) = false := by simp; omega
  go_enter Try.func19, Try.ntmps19
  go_wp2_with (go_at_call 79; refine (placeOk _ _ _ _ _).mono ?_; rintro e w' ⟨rfl, rfl⟩; rw [hd])
  refine bodyPost_ret (v := .tuple #[.slice none 0 0, .int .i64 0, errV 32 1]) (by simp [results, Try.results19, go_sem]; rfl) rfl ⟨rfl, rfl⟩

def remAt (zs : List Int) (i : Nat) : List Int := zs.take i ++ zs.drop (i + 1)
def RemTo (w : World) (n : Nat) (zs : List Int) (i : Nat) (e : Ending) (w' : World) : Prop :=
  ∃ a c, e = .returned (.tuple #[.slice a (n - 1) c, .int .i64 (zs.getD i 0), .nilIface]) ∧ RowAt w' 3 1 a (n - 1) c ((remAt zs i).map (.int .i64)) ∧ Fresh w.heap.size a ∧ Below w.heap.size w w'
set_option maxRecDepth 100000 in
set_option maxHeartbeats 400000 in
theorem remOk (w : World) (a : Option Addr) (n cap : Nat) (zs : List Int) (h : SlAt w 1 a n cap (zs.map (.int .i64))) (hn : n < 1000000) (i : Nat) (hi : i < n) :
    Calls Try.prog 19 #[.slice a n cap, .int .i64 i] w (RemTo w n zs i) := by
  have hl := nil_of_len h
  have hd : decide (0 ≤ (i : Int) ∧ (i : Int) < (n : Int)) = true := by simp; omega
  obtain ⟨b, off, rfl, hb, hc⟩ := h.nonempty (by omega)
  have hx := hc i _ (map_int_cell (by omega))
  generalize hz : zs.getD i 0 = z at *
  have Hz := Lib.hid hz
  have Hl := Lib.hid hl
  clear hc hz hl
  have hw : IntKind.i64.wrap ((i : Int) + 1) = (i : Int) + 1 := by simp [IntKind.wrap, IntKind.signed, IntKind.bits]; omega
  go_enter Try.func19, Try.ntmps19
  go_wp2_with (go_at_call 79; refine (placeOk _ _ _ _ _).mono ?_; rintro e w' ⟨rfl, rfl⟩; rw [hd])
  go_region_held3 (fun x => x.cell? ⟨b, off + i, none⟩ = some (.int .i64 z)) (first | exact hx | exact hx1 | exact hx2)
    (first
      | (go_at_call 81; refine (cloneInts _ _ _ _ _ h.drew (by omega)).mono ?_; rintro e w1 ⟨a1, c1, rfl, hr1, hf1, hb1, hn1⟩; have hx1 := (World.cell?_of_block (hb1.block b hb)).trans hx; obtain ⟨b1, o1, rfl, hb1l, _⟩ := hr1.sl.nonempty (by omega); have hge1 : w.heap.size ≤ b1 := hf1 _ rfl)
      | (go_at_call 82; refine (sDelete _ _ _ _ _ i zs hr1 hi).mono ?_; rintro e w2 ⟨rfl, hr2, hu2⟩; have hx2 := (hu2.cell (p := ⟨b, off + i, none⟩) (by have := hb1.size; exact Nat.lt_of_lt_of_le hb this) (by simp; omega)).trans hx1))
  rw [← Hz.out] at *
  have b2 : Below w.heap.size w w2 := (undrew hb1).trans (hu2.below (by have := hb1.size; exact this) (fun k hk => by have h3 : k < w.heap.size := hk; omega))
  have f2 : Fresh w.heap.size (some ⟨b1, o1, none⟩) := fun ad he => by obtain rfl := Option.some.inj he; exact hge1
  go_wp2_with fail
  refine bodyPost_ret (v := .tuple #[.slice (some ⟨b1, o1, none⟩) (n - 1) c1, .int .i64 (zs.getD i 0), .nilIface]) (by simp [results, Try.results19, go_sem]) rfl ⟨_, _, rfl, hr2, f2, b2⟩
end Go.Proofs.Ytpbocficffbcbaa
