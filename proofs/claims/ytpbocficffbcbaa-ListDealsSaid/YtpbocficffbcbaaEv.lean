import Derived.Test.YtpbocficffbcbaaNum
import Derived.Test.YtpbocficffbcbaaMap
import Derived.Test.YtpbocficffbcbaaClone
import Derived.BigGuardPart
import Derived.Deep.DeepCutAuto
namespace Go.Proofs.Ytpbocficffbcbaa
open Go Go.RowKit
set_option linter.unusedVariables false

/-- An event. -/
structure Ev where
  k : Int
  a : Int
  b : Int
  c : Int
  d : Int
  e : Int
deriving DecidableEq
def evC (e : Ev) : List Value := [.int .i64 e.k, .int .i64 e.a, .int .i64 e.b, .int .i64 e.c, .int .i64 e.d, .int .i64 e.e]
abbrev evA (e : Ev) : Array Value := #[.int .i64 e.k, .int .i64 e.a, .int .i64 e.b, .int .i64 e.c, .int .i64 e.d, .int .i64 e.e]
abbrev evV (e : Ev) : Value := .agg (evA e)

theorem ret_bool {a b : Bool} (h : a = b) : Ending.returned (.bool a) = .returned (.bool b) := by rw [h]
theorem ret_err {t : TypeId} {a b : Int} (h : a = b) : Ending.returned (errV t a) = .returned (errV t b) := by rw [h]
theorem ret_int {a b : Int} (h : a = b) : Ending.returned (.int .i64 a) = .returned (.int .i64 b) := by rw [h]

def inB (n m : Int) : Bool := decide (0 ≤ n) && decide (n < m)
set_option maxHeartbeats 400000 in
theorem in_ (w : World) (n m : Int) : Calls Try.prog 92 #[.int .i64 n, .int .i64 m] w (fun e w' => e = .returned (.bool (inB n m)) ∧ w = w') := by
  go_enter Try.func92, Try.ntmps92
  go_wp2
  all_goals
    go_ret
    exact ⟨ret_bool (by rw [Bool.eq_iff_iff]; simp [inB]; try omega), rfl⟩

def makesB (e : Ev) : Bool := decide (e.k = 0) || decide (e.k = 5)
set_option maxHeartbeats 400000 in
theorem makes (w : World) (e : Ev) : Calls Try.prog 116 #[evV e] w (fun x w' => x = .returned (.bool (makesB e)) ∧ Below w.heap.size w w') := by
  go_enter Try.func116, Try.ntmps116
  go_wp2
  all_goals
    go_ret
    exact ⟨ret_bool (by rw [Bool.eq_iff_iff]; simp_all [makesB]), (Below.refl _ _).alloc (Nat.le_refl _) _⟩
set_option maxHeartbeats 400000 in
theorem cuts (w : World) (e : Ev) : Calls Try.prog 103 #[evV e] w (fun x w' => x = .returned (.bool (makesB e)) ∧ Below w.heap.size w w') := by
  go_enter Try.func103, Try.ntmps103
  go_wp2
  all_goals
    go_ret
    exact ⟨ret_bool (by rw [Bool.eq_iff_iff]; simp_all [makesB]), (Below.refl _ _).alloc (Nat.le_refl _) _⟩
def setsB (e : Ev) : Bool := decide (2 ≤ e.k) && decide (e.k ≤ 4)
set_option maxHeartbeats 400000 in
theorem sets (w : World) (e : Ev) : Calls Try.prog 66 #[evV e] w (fun x w' => x = .returned (.bool (setsB e)) ∧ Below w.heap.size w w') := by
  go_enter Try.func66, Try.ntmps66
  go_wp2
  all_goals
    go_ret
    exact ⟨ret_bool (by rw [Bool.eq_iff_iff]; simp_all [setsB]; try omega), (Below.refl _ _).alloc (Nat.le_refl _) _⟩
set_option maxHeartbeats 400000 in
theorem refSets (w : World) (e : Ev) : Calls Try.prog 130 #[evV e] w (fun x w' => x = .returned (.bool (setsB e)) ∧ Below w.heap.size w w') := by
  go_enter Try.func130, Try.ntmps130
  go_wp2
  all_goals
    go_ret
    exact ⟨ret_bool (by rw [Bool.eq_iff_iff]; simp_all [setsB]; try omega), (Below.refl _ _).alloc (Nat.le_refl _) _⟩

def spareB (e : Ev) : Bool := if makesB e then decide (e.d = 0) && decide (e.e = 0) else decide (e.k = 1) || (decide (e.e = 0) && (decide (e.k ≠ 4) || decide (e.a = 0)))
set_option maxHeartbeats 800000 in
theorem spare (w : World) (e : Ev) : Calls Try.prog 93 #[evV e] w (fun x w' => x = .returned (.bool (spareB e)) ∧ Below w.heap.size w w') := by
  have ho := alloc_new w (.cells (evA e) 64)
  go_enter Try.func93, Try.ntmps93
  go_wp2_with fail
  refine (makes _ e).mono ?_
  rintro x w1 ⟨rfl, hb⟩
  have ho1 := below_obj hb ho (by simp)
  have b1 : Below w.heap.size w w1 := ((Below.refl _ w).alloc (Nat.le_refl _) _).trans (hb.mono (by simp))
  have c0 := obj_cell ho1 0
  have c1 := obj_cell ho1 1
  have c4 := obj_cell ho1 4
  have c5 := obj_cell ho1 5
  simp at c0 c1 c4 c5
  clear ho ho1 hb
  cases hm : makesB e
  all_goals
    go_wp2
    all_goals
      go_ret
      exact ⟨ret_bool (by rw [Bool.eq_iff_iff]; simp_all [spareB]), b1⟩

def smallB (e : Ev) : Bool := decide (-1073741824 ≤ e.d) && decide (e.d ≤ 1073741824)
def rangesB (e : Ev) : Bool :=
  if makesB e then inB e.a 120 && inB e.b 2 && inB e.c 3
  else if e.k = 1 then decide (0 ≤ e.a) && inB e.b 11 && inB e.d 11 && decide (0 ≤ e.c) && decide (0 ≤ e.e)
  else if e.k = 2 then decide (0 ≤ e.a) && inB e.b 18 && decide (e.b ≠ 3) && smallB e
  else if e.k = 3 then inB e.a 2 && inB e.b 9 && smallB e
  else inB e.b 7 && smallB e
set_option maxRecDepth 100000 in
set_option maxHeartbeats 3200000 in
theorem ranges (w : World) (e : Ev) : Calls Try.prog 94 #[evV e] w (fun x w' => x = .returned (.bool (rangesB e)) ∧ Below w.heap.size w w') := by
  have b1 : Below w.heap.size w (w.alloc (.cells (evA e) 64)) := ((Below.refl _ w).alloc (Nat.le_refl _) _)
  go_enter Try.func94, Try.ntmps94
  go_upto_region 1 with (fail)
  go_cut [3] (fun s wx => s = .bool (smallB e) ∧ wx = w.alloc (.cells (evA e) 64))
  case first =>
    go_wp2
    all_goals
      go_meet
      exact ⟨by congr 1; rw [Bool.eq_iff_iff]; simp_all [smallB]; try (intros; omega), rfl⟩
  case rest =>
    obtain ⟨rfl, rfl⟩ := hcut
    generalize hs : smallB e = s at *
    have Hs := Lib.hid hs
    clear hs
    go_wp2_with (go_at_call 92; refine (in_ _ _ _).mono ?_; rintro x w' ⟨rfl, rfl⟩)
    all_goals
      go_ret
      exact ⟨ret_bool (by have hs := Hs.out; clear Hs; rw [Bool.eq_iff_iff]; simp_all [rangesB, makesB]; try (intros; omega)), b1⟩

/-- An event's error. -/
def chk (e : Ev) : Int := if inB e.k 6 then (if spareB e then (if rangesB e then 0 else 1) else 2) else 6
set_option maxRecDepth 100000 in
set_option maxHeartbeats 800000 in
theorem check (w : World) (e : Ev) : Calls Try.prog 60 #[evV e] w (fun x w' => x = .returned (errV 32 (chk e)) ∧ Below w.heap.size w w') := by
  have ho := alloc_new w (.cells (evA e) 64)
  have b0 : Below w.heap.size w (w.alloc (.cells (evA e) 64)) := ((Below.refl _ w).alloc (Nat.le_refl _) _)
  go_enter Try.func60, Try.ntmps60
  go_wp2_with fail
  refine (in_ _ _ _).mono ?_
  rintro x w' ⟨rfl, rfl⟩
  cases h6 : inB e.k 6
  · go_wp2_with fail
    go_ret
    exact ⟨ret_err (b := chk e) (a := 6) (by simp [chk, h6]), b0⟩
  go_wp2_with fail
  refine (spare _ e).mono ?_
  rintro x w1 ⟨rfl, hb1⟩
  have ho1 := below_obj hb1 ho (by simp)
  have b1 : Below w.heap.size w w1 := b0.trans (hb1.mono (by simp))
  have c0 := obj_cell ho1 0
  have c1 := obj_cell ho1 1
  have c2 := obj_cell ho1 2
  have c3 := obj_cell ho1 3
  have c4 := obj_cell ho1 4
  have c5 := obj_cell ho1 5
  simp at c0 c1 c2 c3 c4 c5
  clear ho1 ho hb1
  cases hs : spareB e
  · go_wp2_with fail
    go_ret
    exact ⟨ret_err (b := chk e) (a := 2) (by simp [chk, h6, hs]), b1⟩
  go_wp2_with fail
  refine (ranges _ e).mono ?_
  rintro x w2 ⟨rfl, hb2⟩
  have b2 : Below w.heap.size w w2 := b1.trans (hb2.mono b1.size)
  cases hr : rangesB e
  all_goals
    go_wp2_with fail
    go_ret
  · exact ⟨ret_err (b := chk e) (a := 1) (by simp [chk, h6, hs, hr]), b2⟩
  · exact ⟨ret_err (b := chk e) (a := 0) (by simp [chk, h6, hs, hr]), b2⟩

end Go.Proofs.Ytpbocficffbcbaa
