import Derived.Test.YtpbocficffbcbaaState2
namespace Go.Proofs.Ytpbocficffbcbaa
open Go Go.RowKit
set_option linter.unusedVariables false

/-- The state s lies in the block g; its slices are new behind B. -/
structure StAt (w : World) (B g : Nat) (s : St) (cs : Array Value) : Prop where
  obj : w.heap[g]? = some (.cells cs 79 (0, 0))
  own : StO B w cs s
  off : ∀ i a c, i < 12 → cs[i]? = some (.slice a (lenOf s i) c) → ∀ ad, a = some ad → ad.block ≠ g
theorem StAt.all {w w' : World} {B g : Nat} {s : St} {cs : Array Value} (h : StAt w B g s cs) (k : Below w.heap.size w w') : StAt w' B g s cs :=
  ⟨below_obj k h.obj (obj_lt h.obj), h.own.all k, h.off⟩

/-- A number stored through a pointer. -/
def Sets (w : World) (g j : Nat) (z : Int) (e : Ev) (x : Ending) (w' : World) : Prop :=
  (z ≠ e.c ∧ x = .returned (errV 32 20) ∧ Below w.heap.size w w') ∨ (z = e.c ∧ x = .returned (errV 32 0) ∧ ∃ w1, Below w.heap.size w w1 ∧ w' = w1.setCell ⟨g, j, none⟩ (.int .i64 e.d))

set_option maxRecDepth 100000 in
set_option maxHeartbeats 1600000 in
theorem set_ (w : World) (g j : Nat) (z : Int) (e : Ev) (hc : w.cell? ⟨g, j, none⟩ = some (.int .i64 z)) (hf : w.frozen? ⟨g, j, none⟩ = false) :
    Calls Try.prog 99 #[.pointer (some ⟨g, j, none⟩), evV e] w (Sets w g j z e) := by
  have hg : g < w.heap.size := World.block_lt_of_cell? w _ hc
  have b1 : Below w.heap.size w (w.alloc (.cells (evA e) 64)) := ((Below.refl _ w).alloc (Nat.le_refl _) _)
  have hc1 := cell_alloc hc (.cells (evA e) 64)
  have hf1 : (w.alloc (.cells (evA e) 64)).frozen? ⟨g, j, none⟩ = false := (frozen?_alloc_cells _ _ _ _).trans hf
  go_enter Try.func99, Try.ntmps99
  by_cases hz : z = e.c
  · have hzz : (z != e.c) = false := by simp [hz]
    go_wp2_with fail
    go_quiet (fail)
    go_wp2
    go_ret
    exact .inr ⟨hz, rfl, _, b1.trans (((Q.refl _).drewN _).below _), rfl⟩
  · have hzz : (z != e.c) = true := by simp [hz]
    go_wp2_with fail
    go_quiet (fail)
    go_wp2
    go_ret
    exact .inl ⟨hz, rfl, b1.trans (((Q.refl _).drewN _).below _)⟩

def setP (s : St) (j : Nat) (z : Int) : St := { s with p := s.p.set j z }
theorem lenOf_setP (s : St) (j : Nat) (z : Int) (i : Nat) : lenOf (setP s j z) i = lenOf s i := rfl
theorem rowOf_setP (s : St) (j : Nat) (z : Int) (i : Nat) : rowOf (setP s j z) i = rowOf s i := rfl
theorem StAt.setP {w : World} {B g : Nat} {s : St} {cs : Array Value} (h : StAt w B g s cs) (j : Nat) (hj : j < 25) (hp : s.p.length = 25) (z : Int) :
    StAt (w.setCell ⟨g, 12 + j, none⟩ (.int .i64 z)) B g (setP s j z) (cs.setIfInBounds (12 + j) (.int .i64 z)) := by
  have hne : ∀ i, i < 12 → (cs.setIfInBounds (12 + j) (.int .i64 z))[i]? = cs[i]? := fun i hi => Array.getElem?_setIfInBounds_ne (by omega)
  refine ⟨obj_set h.obj _ _, ⟨by simp [h.own.size], fun i hi => ?_, fun i k a b n m c d hi hk hik h1 h2 => h.own.dis i k a b n m c d hi hk hik (by rw [← hne i hi]; exact h1) (by rw [← hne k hk]; exact h2), fun i hi => ?_⟩, fun i a c hi he => h.off i a c hi (by rw [← hne i hi]; exact he)⟩
  · obtain ⟨a, c, h1, h2, h3⟩ := h.own.sl i hi
    exact ⟨a, c, by rw [hne i hi]; exact h1, h2.setCell _ (h.off i a c hi h1) _, h3⟩
  · by_cases hij : i = j
    · subst hij
      rw [Array.getElem?_setIfInBounds_self_of_lt (by rw [h.own.size]; omega)]
      simp [Go.Proofs.Ytpbocficffbcbaa.setP, List.getD, hp, hi]
    · rw [Array.getElem?_setIfInBounds_ne (by omega), h.own.num i hi]
      simp [Go.Proofs.Ytpbocficffbcbaa.setP, List.getD, Ne.symm hij]

/-- Behind Do with a state in a block. -/
def DoTo (w : World) (B g : Nat) (s t : St) (n : Int) (x : Ending) (w' : World) : Prop :=
  x = .returned (errV 32 n) ∧ Upd (fun k => k = g) w w' ∧ ∃ cs, StAt w' B g (if n = 0 then t else s) cs

/-- The six cells of an event in the block k. -/
def EvCells (w : World) (k : Nat) (e : Ev) : Prop := w.cell? ⟨k, 0, none⟩ = some (.int .i64 e.k) ∧ w.cell? ⟨k, 1, none⟩ = some (.int .i64 e.a) ∧ w.cell? ⟨k, 2, none⟩ = some (.int .i64 e.b) ∧ w.cell? ⟨k, 3, none⟩ = some (.int .i64 e.c) ∧ w.cell? ⟨k, 4, none⟩ = some (.int .i64 e.d) ∧ w.cell? ⟨k, 5, none⟩ = some (.int .i64 e.e)
theorem EvCells.of {w : World} {k : Nat} {e : Ev} (h : w.heap[k]? = some (.cells (evA e) 64 (0, 0))) : EvCells w k e :=
  ⟨(obj_cell h 0).trans rfl, (obj_cell h 1).trans rfl, (obj_cell h 2).trans rfl, (obj_cell h 3).trans rfl, (obj_cell h 4).trans rfl, (obj_cell h 5).trans rfl⟩

theorem EvCells.set {w : World} {k : Nat} {e : Ev} (h : EvCells w k e) {g : Nat} (hg : g ≠ k) (j : Nat) (v : Value) : EvCells (w.setCell ⟨g, j, none⟩ v) k e := by
  obtain ⟨c0, c1, c2, c3, c4, c5⟩ := h
  exact ⟨cell_set_other c0 (Ne.symm hg), cell_set_other c1 (Ne.symm hg), cell_set_other c2 (Ne.symm hg), cell_set_other c3 (Ne.symm hg), cell_set_other c4 (Ne.symm hg), cell_set_other c5 (Ne.symm hg)⟩
theorem EvCells.lay {w : World} {k : Nat} {e : Ev} (h : EvCells w k e) {x y z : Int} (h1 : e.k = x) (h2 : e.a = y) (h3 : e.b = z) : w.cell? ⟨k, 0, none⟩ = some (.int .i64 x) ∧ w.cell? ⟨k, 1, none⟩ = some (.int .i64 y) ∧ w.cell? ⟨k, 2, none⟩ = some (.int .i64 z) ∧ w.cell? ⟨k, 3, none⟩ = some (.int .i64 e.c) ∧ w.cell? ⟨k, 4, none⟩ = some (.int .i64 e.d) ∧ w.cell? ⟨k, 5, none⟩ = some (.int .i64 e.e) := by
  subst h1 h2 h3
  exact h
theorem setOk (w : World) (g j : Nat) (z : Int) (e : Ev) (hc : w.cell? ⟨g, j, none⟩ = some (.int .i64 z)) (hf : w.frozen? ⟨g, j, none⟩ = false) (hz : z = e.c) :
    Calls Try.prog 99 #[.pointer (some ⟨g, j, none⟩), evV e] w (fun x w' => x = .returned (errV 32 0) ∧ ∃ w1, Below w.heap.size w w1 ∧ w' = w1.setCell ⟨g, j, none⟩ (.int .i64 e.d)) :=
  (set_ w g j z e hc hf).mono fun x w' h => by
    rcases h with ⟨h, _⟩ | ⟨_, h, h2⟩
    · exact absurd hz h
    · exact ⟨h, h2⟩
theorem setBad (w : World) (g j : Nat) (z : Int) (e : Ev) (hc : w.cell? ⟨g, j, none⟩ = some (.int .i64 z)) (hf : w.frozen? ⟨g, j, none⟩ = false) (hz : z ≠ e.c) :
    Calls Try.prog 99 #[.pointer (some ⟨g, j, none⟩), evV e] w (fun x w' => x = .returned (.iface 32 (.int .i64 20)) ∧ Below w.heap.size w w') :=
  (set_ w g j z e hc hf).mono fun x w' h => by
    rcases h with ⟨h, h1, h2⟩ | ⟨h, _⟩
    · exact ⟨h1, h2⟩
    · exact absurd h hz

set_option maxRecDepth 100000 in
set_option maxHeartbeats 400000 in
theorem doPlayer (w : World) (B g : Nat) (cs : Array Value) (s : St) (h : StAt w B g s cs) (ok : StOk s) (e : Ev) (a b : Nat) (ha : a < 2) (hb : b < 9) (hek : e.k = 3) (hea : e.a = a) (heb : e.b = b) (hk : chk e = 0) (n : Int) (hn : n = if s.p.getD (9 * a + b) 0 = e.c then 0 else 20) (t : St) (ht : t = setP s (9 * a + b) e.d) :
    Calls Try.prog 62 #[.pointer (some ⟨g, 0, none⟩), evV e] w (DoTo w B g s t n) := by
  have Hn := Lib.hid hn
  have Ht := Lib.hid ht
  clear hn ht
  have hg := obj_lt h.obj
  have Hh := Lib.hid h
  have Hok := Lib.hid ok
  have Hk := Lib.hid hk
  have Hek := Lib.hid hek
  have Hea := Lib.hid hea
  have Heb := Lib.hid heb
  clear h ok hk hek hea heb
  go_enter Try.func62, Try.ntmps62
  go_wp2_with fail
  refine (check _ _).mono ?_
  rintro x w1 ⟨rfl, hb1⟩
  rw [Hk.out, errV_zero]
  have b0 : Below w.heap.size w (w.alloc (.cells (evA e) 64)) := ((Below.refl _ w).alloc (Nat.le_refl _) _)
  have Hh1 := Lib.hid ((Hh.out.all b0).all hb1)
  have Ho1 := Lib.hid (below_obj hb1 (alloc_new w (.cells (evA e) 64)) (by simp))
  have Hb1 := Lib.hid (b0.trans (hb1.mono (by simp)))
  have hx1 := EvCells.of Ho1.out
  unfold EvCells at hx1
  rw [Hek.out, Hea.out, Heb.out] at hx1
  clear hb1 b0 Hh
  have hx2 := hx1
  obtain ⟨c0, c1, c2, c3, c4, c5⟩ := hx2
  go_wp2_with fail
  clear c0 c1 c2 c3 c4 c5
  have hai : (a : Int) < 2 := by omega
  have hbi : (b : Int) < 9 := by omega
  have hnum := Hh1.out.own.num (9 * a + b) (by omega)
  have kc : w1.cell? ⟨g, 12 + a * 9 + b, none⟩ = some (.int .i64 (s.p.getD (9 * a + b) 0)) := (obj_cell Hh1.out.obj _).trans (by rw [show 12 + a * 9 + b = 12 + (9 * a + b) by omega]; exact hnum)
  have kf : w1.frozen? ⟨g, 12 + a * 9 + b, none⟩ = false := obj_free Hh1.out.obj _
  have Kc : Hid (w1.drew.cell? ⟨g, 12 + a * 9 + b, none⟩ = some (.int .i64 (s.p.getD (9 * a + b) 0))) := kc
  have Kf : Hid (w1.drew.frozen? ⟨g, 12 + a * 9 + b, none⟩ = false) := kf
  have hg1 : g < w1.heap.size := obj_lt Hh1.out.obj
  have hge : g ≠ w.heap.size := by omega
  generalize hzd : s.p.getD (9 * a + b) 0 = z at *
  clear kc kf hnum hzd
  have hxa : ∀ w', Below w1.heap.size w1 w' → EvCells w' w.heap.size e := fun w' hb => EvCells.of (below_obj hb Ho1.out (obj_lt Ho1.out))
  have Hxa := Lib.hid hxa
  clear hxa
  by_cases hz : z = e.c
  · have Hz := Lib.hid hz
    clear hz
    go_region_held3 (fun x => x.cell? ⟨w.heap.size, 0, none⟩ = some (.int .i64 3) ∧ x.cell? ⟨w.heap.size, 1, none⟩ = some (.int .i64 a) ∧ x.cell? ⟨w.heap.size, 2, none⟩ = some (.int .i64 b) ∧ x.cell? ⟨w.heap.size, 3, none⟩ = some (.int .i64 e.c) ∧ x.cell? ⟨w.heap.size, 4, none⟩ = some (.int .i64 e.d) ∧ x.cell? ⟨w.heap.size, 5, none⟩ = some (.int .i64 e.e))
      (first | exact hx1 | exact hx2)
      (first | (go_at_call 99; refine (setOk _ g (12 + a * 9 + b) z ⟨3, a, b, e.c, e.d, e.e⟩ Kc.out Kf.out Hz.out).mono ?_; rintro x w2 ⟨rfl, w3, hb3, rfl⟩; have hx2 := EvCells.lay (EvCells.set (Hxa.out w3 (undrew hb3)) hge (12 + a * 9 + b) (.int .i64 e.d)) Hek.out Hea.out Heb.out))
    clear hx1 hx2
    go_wp2_with fail
    go_ret
    have hb4 := Hb1.out.trans ((undrew hb3).mono Hb1.out.size)
    have hst := (Hh1.out.all (undrew hb3)).setP (9 * a + b) (by omega) Hok.out.p e.d
    rw [show 12 + (9 * a + b) = 12 + a * 9 + b by omega, ← Ht.out] at hst
    have hn0 : n = 0 := by rw [Hn.out, if_pos Hz.out]
    exact ⟨ret_err hn0.symm, (Upd.of_below (S := fun k => k = g) hb4).setCell _ (fun _ => rfl) _, _, by rw [if_pos hn0]; exact hst⟩
  · have Hz := Lib.hid hz
    clear hz
    go_region_held3 (fun x => x.cell? ⟨w.heap.size, 0, none⟩ = some (.int .i64 3) ∧ x.cell? ⟨w.heap.size, 1, none⟩ = some (.int .i64 a) ∧ x.cell? ⟨w.heap.size, 2, none⟩ = some (.int .i64 b) ∧ x.cell? ⟨w.heap.size, 3, none⟩ = some (.int .i64 e.c) ∧ x.cell? ⟨w.heap.size, 4, none⟩ = some (.int .i64 e.d) ∧ x.cell? ⟨w.heap.size, 5, none⟩ = some (.int .i64 e.e))
      (first | exact hx1 | exact hx2)
      (first | (go_at_call 99; refine (setBad _ g (12 + a * 9 + b) z ⟨3, a, b, e.c, e.d, e.e⟩ Kc.out Kf.out Hz.out).mono ?_; rintro x w3 ⟨rfl, hb3⟩; have hx2 := EvCells.lay (Hxa.out w3 (undrew hb3)) Hek.out Hea.out Heb.out))
    clear hx1 hx2
    go_wp2_with fail
    go_ret
    have hb4 := Hb1.out.trans ((undrew hb3).mono Hb1.out.size)
    have hn0 : n = 20 := by rw [Hn.out, if_neg Hz.out]
    exact ⟨ret_err (a := 20) hn0.symm, Upd.of_below hb4, _, by rw [hn0]; exact Hh1.out.all (undrew hb3)⟩
end Go.Proofs.Ytpbocficffbcbaa
