import Derived.Test.YtpbocficffbcbaaEv
import Derived.RegionTactic
import Derived.ChangeAlike
import Derived.BigRegion
namespace Go.Proofs.Ytpbocficffbcbaa
open Go Go.RowKit
set_option linter.unusedVariables false

def inv (e : Ev) : Ev :=
  if e.k = 0 then { e with k := 5 } else if e.k = 5 then { e with k := 0 } else if e.k = 1 then { e with b := e.d, c := e.e, d := e.b, e := e.c }
  else if setsB e then { e with c := e.d, d := e.c } else e
/-- Behind a call that hands back an event. -/
def EvTo (w : World) (v : Ev) (x : Ending) (w' : World) : Prop := x = .returned (evV v) ∧ Below w.heap.size w w'
set_option maxRecDepth 100000 in
set_option maxHeartbeats 800000 in
theorem invert (w : World) (e : Ev) : Calls Try.prog 64 #[evV e] w (EvTo w (inv e)) := by
  have ho := alloc_new w (.cells (evA e) 64)
  have b0 : Below w.heap.size w (w.alloc (.cells (evA e) 64)) := ((Below.refl _ w).alloc (Nat.le_refl _) _)
  go_enter Try.func64, Try.ntmps64
  go_wp2_with fail
  · have hk : e.k = 0 := by rename_i h; simpa using h
    have hi : inv e = { e with k := 5 } := by simp [inv, hk]
    exact bodyPost_ret (v := .agg #[.int .i64 5, .int .i64 e.a, .int .i64 e.b, .int .i64 e.c, .int .i64 e.d, .int .i64 e.e]) (by simp [results, Try.results64, go_sem]) rfl ⟨by rw [hi], ((Below.refl _ _).alloc (Nat.le_refl _) _).alloc (by simp) _⟩
  · have hk : e.k = 5 := by rename_i _ h; simpa using h
    have hi : inv e = { e with k := 0 } := by simp [inv, hk]
    exact bodyPost_ret (v := .agg #[.int .i64 0, .int .i64 e.a, .int .i64 e.b, .int .i64 e.c, .int .i64 e.d, .int .i64 e.e]) (by simp [results, Try.results64, go_sem]) rfl ⟨by rw [hi], ((Below.refl _ _).alloc (Nat.le_refl _) _).alloc (by simp) _⟩
  · have hk : e.k = 1 := by rename_i _ _ h; simpa using h
    have hi : inv e = { e with b := e.d, c := e.e, d := e.b, e := e.c } := by simp [inv, hk]
    exact bodyPost_ret (v := .agg #[.int .i64 e.k, .int .i64 e.a, .int .i64 e.d, .int .i64 e.e, .int .i64 e.b, .int .i64 e.c]) (by simp [results, Try.results64, go_sem]) rfl ⟨by rw [hi], ((Below.refl _ _).alloc (Nat.le_refl _) _).alloc (by simp) _⟩
  · have h0 : (e.k == 0) = false := by assumption
    have h5 : (e.k == 5) = false := by assumption
    have h1 : (e.k == 1) = false := by assumption
    refine (sets _ e).mono ?_
    rintro x w1 ⟨rfl, hb1⟩
    have ho1 := below_obj hb1 (alloc_obj (x := .cells #[.int .i64 0, .int .i64 0, .int .i64 0, .int .i64 0, .int .i64 0, .int .i64 0] 64) ho) (by simp; omega)
    have ho2 : w1.heap[w.heap.size + 1]? = some (.cells #[.int .i64 0, .int .i64 0, .int .i64 0, .int .i64 0, .int .i64 0, .int .i64 0] 64 (0, 0)) := by
      have := below_obj hb1 (alloc_new (w.alloc (.cells (evA e) 64)) (.cells #[.int .i64 0, .int .i64 0, .int .i64 0, .int .i64 0, .int .i64 0, .int .i64 0] 64)) (by simp)
      simpa using this
    have b1 : Below w.heap.size w w1 := (b0.alloc (by simp) _).trans (hb1.mono (by simp; omega))
    have hz1 : w.heap.size + 1 < w1.heap.size := by have := hb1.size; simp at this; omega
    have c0 := obj_cell ho1 0
    have c1 := obj_cell ho1 1
    have c2 := obj_cell ho1 2
    have c3 := obj_cell ho1 3
    have c4 := obj_cell ho1 4
    have c5 := obj_cell ho1 5
    have d0 := obj_cell ho2 0
    have d1 := obj_cell ho2 1
    have d2 := obj_cell ho2 2
    have d3 := obj_cell ho2 3
    have d4 := obj_cell ho2 4
    have d5 := obj_cell ho2 5
    have f1 := fun j => obj_free ho1 j
    have f2 := fun j => obj_free ho2 j
    simp at c0 c1 c2 c3 c4 c5 d0 d1 d2 d3 d4 d5
    cases hs : setsB e
    · have hi : inv e = e := by simp at h0 h1 h5; simp [inv, h0, h5, h1, hs]
      have Hi := Lib.hid hi
      clear hi ho1 ho2 hb1 ho
      go_wp2_with fail
      refine bodyPost_ret (v := evV e) (by simp [results, Try.results64, go_sem, d0, d1, d2, d3, d4, d5]) rfl ⟨by rw [Hi.out], ?_⟩
      exact (((((b1.setCell (by simp) _).setCell (by simp) _).setCell (by simp) _).setCell (by simp) _).setCell (by simp) _).setCell (by simp) _
    · have hi : inv e = { e with c := e.d, d := e.c } := by simp at h0 h1 h5; simp [inv, h0, h5, h1, hs]
      have Hi := Lib.hid hi
      clear hi ho1 ho2 hb1 ho
      go_wp2_with fail
      refine bodyPost_ret (v := .agg #[.int .i64 e.k, .int .i64 e.a, .int .i64 e.b, .int .i64 e.d, .int .i64 e.c, .int .i64 e.e]) (by simp [results, Try.results64, go_sem, d0, d1, d2, d3, d4, d5]) rfl ⟨by rw [Hi.out], ?_⟩
      exact (((((((b1.setCell (by simp) _).setCell (by simp) _).setCell (by simp) _).setCell (by simp) _).setCell (by simp) _).setCell (by simp) _).setCell (by simp) _).setCell (by simp) _
end Go.Proofs.Ytpbocficffbcbaa
