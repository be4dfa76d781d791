import Derived.Test.YtpbocficffbcbaaDoG
namespace Go.Proofs.Ytpbocficffbcbaa
open Go Go.RowKit
set_option linter.unusedVariables false

abbrev evK (e : Ev) (k : Int) : Ev := ⟨k, e.a, e.b, e.c, e.d, e.e⟩
theorem evK_eq {e : Ev} {k : Int} (h : e.k = k) : evK e k = e := by subst h; rfl
theorem EvCells.layK {w : World} {k : Nat} {e : Ev} (h : EvCells w k e) {x : Int} (h1 : e.k = x) : w.cell? ⟨k, 0, none⟩ = some (.int .i64 x) ∧ w.cell? ⟨k, 1, none⟩ = some (.int .i64 e.a) ∧ w.cell? ⟨k, 2, none⟩ = some (.int .i64 e.b) ∧ w.cell? ⟨k, 3, none⟩ = some (.int .i64 e.c) ∧ w.cell? ⟨k, 4, none⟩ = some (.int .i64 e.d) ∧ w.cell? ⟨k, 5, none⟩ = some (.int .i64 e.e) := by
  subst h1
  exact h

set_option maxRecDepth 100000 in
set_option maxHeartbeats 400000 in
theorem doBad (w : World) (B g : Nat) (cs : Array Value) (s t : St) (h : StAt w B g s cs) (e : Ev) (n : Int) (hn : n = chk e) (h0 : n ≠ 0) :
    Calls Try.prog 62 #[.pointer (some ⟨g, 0, none⟩), evV e] w (DoTo w B g s t n) := by
  have b0 : Below w.heap.size w (w.alloc (.cells (evA e) 64)) := ((Below.refl _ w).alloc (Nat.le_refl _) _)
  have Hh := Lib.hid (h.all b0)
  have B0 := Lib.hid b0
  have Hn := Lib.hid hn
  have H0 := Lib.hid h0
  clear h b0 hn h0
  go_enter Try.func62, Try.ntmps62
  go_wp2_with fail
  refine (check _ _).mono ?_
  rintro x w1 ⟨rfl, hb1⟩
  rw [← Hn.out, errV_pos _ _ H0.out]
  go_wp2_with fail
  go_ret
  exact ⟨by rw [errV_pos _ _ H0.out]; rfl, (Upd.of_below B0.out).trans (Upd.of_below (S := fun k => k = g) hb1) (fun _ _ h => h), _, by rw [if_neg H0.out]; exact Hh.out.all hb1⟩

set_option maxRecDepth 100000 in
set_option maxHeartbeats 400000 in
theorem doMake (w : World) (B g : Nat) (cs : Array Value) (s t : St) (h : StAt w B g s cs) (hB : B ≤ w.heap.size) (e : Ev) (hk : chk e = 0) (hek : e.k = 0) (n : Int)
    (hcall : ∀ (w1 : World), StAt w1 B g s cs → B ≤ w1.heap.size → Calls Try.prog 95 #[.pointer (some ⟨g, 0, none⟩), evV (evK e 0)] w1 (DoTo w1 B g s t n)) :
    Calls Try.prog 62 #[.pointer (some ⟨g, 0, none⟩), evV e] w (DoTo w B g s t n) := by
  have b0 : Below w.heap.size w (w.alloc (.cells (evA e) 64)) := ((Below.refl _ w).alloc (Nat.le_refl _) _)
  have Hh := Lib.hid (h.all b0)
  have B0 := Lib.hid b0
  have Hk := Lib.hid hk
  have Hek := Lib.hid hek
  have Hc := Lib.hid hcall
  clear h b0 hk hek hcall
  go_enter Try.func62, Try.ntmps62
  go_wp2_with fail
  refine (check _ _).mono ?_
  rintro x w1 ⟨rfl, hb1⟩
  rw [Hk.out, errV_zero]
  have Hh1 := Lib.hid (Hh.out.all hb1)
  have hbw := B0.out.trans (hb1.mono (by simp))
  have hsz := hbw.size
  have hx := EvCells.layK (EvCells.of (below_obj hb1 (alloc_new w (.cells (evA e) 64)) (by simp))) Hek.out
  have Hbw := Lib.hid hbw
  obtain ⟨x0, x1, x2, x3, x4, x5⟩ := hx
  clear hb1 hbw
  go_wp2_with fail
  refine (Hc.out _ Hh1.out (by omega)).mono ?_
  rintro x w2 ⟨rfl, hu2, hst2⟩
  have Hu2 := Lib.hid hu2
  have Hst2 := Lib.hid hst2
  clear x0 x1 x2 x3 x4 x5 hu2 hst2
  go_wp2_with fail
  go_ret
  exact ⟨rfl, (Upd.of_below Hbw.out).trans Hu2.out (fun _ _ h => h), Hst2.out⟩

set_option maxRecDepth 100000 in
set_option maxHeartbeats 400000 in
theorem doUnmake (w : World) (B g : Nat) (cs : Array Value) (s t : St) (h : StAt w B g s cs) (hB : B ≤ w.heap.size) (e : Ev) (hk : chk e = 0) (hek : e.k = 5) (n : Int)
    (hcall : ∀ (w1 : World), StAt w1 B g s cs → B ≤ w1.heap.size → Calls Try.prog 96 #[.pointer (some ⟨g, 0, none⟩), evV (evK e 5)] w1 (DoTo w1 B g s t n)) :
    Calls Try.prog 62 #[.pointer (some ⟨g, 0, none⟩), evV e] w (DoTo w B g s t n) := by
  have b0 : Below w.heap.size w (w.alloc (.cells (evA e) 64)) := ((Below.refl _ w).alloc (Nat.le_refl _) _)
  have Hh := Lib.hid (h.all b0)
  have B0 := Lib.hid b0
  have Hk := Lib.hid hk
  have Hek := Lib.hid hek
  have Hc := Lib.hid hcall
  clear h b0 hk hek hcall
  go_enter Try.func62, Try.ntmps62
  go_wp2_with fail
  refine (check _ _).mono ?_
  rintro x w1 ⟨rfl, hb1⟩
  rw [Hk.out, errV_zero]
  have Hh1 := Lib.hid (Hh.out.all hb1)
  have hbw := B0.out.trans (hb1.mono (by simp))
  have hsz := hbw.size
  have hx := EvCells.layK (EvCells.of (below_obj hb1 (alloc_new w (.cells (evA e) 64)) (by simp))) Hek.out
  have Hbw := Lib.hid hbw
  obtain ⟨x0, x1, x2, x3, x4, x5⟩ := hx
  clear hb1 hbw
  go_wp2_with fail
  refine (Hc.out _ Hh1.out (by omega)).mono ?_
  rintro x w2 ⟨rfl, hu2, hst2⟩
  have Hu2 := Lib.hid hu2
  have Hst2 := Lib.hid hst2
  clear x0 x1 x2 x3 x4 x5 hu2 hst2
  go_wp2_with fail
  go_ret
  exact ⟨rfl, (Upd.of_below Hbw.out).trans Hu2.out (fun _ _ h => h), Hst2.out⟩

set_option maxRecDepth 100000 in
set_option maxHeartbeats 400000 in
theorem doMove (w : World) (B g : Nat) (cs : Array Value) (s t : St) (h : StAt w B g s cs) (hB : B ≤ w.heap.size) (e : Ev) (hk : chk e = 0) (hek : e.k = 1) (n : Int)
    (hcall : ∀ (w1 : World), StAt w1 B g s cs → B ≤ w1.heap.size → Calls Try.prog 97 #[.pointer (some ⟨g, 0, none⟩), evV (evK e 1)] w1 (DoTo w1 B g s t n)) :
    Calls Try.prog 62 #[.pointer (some ⟨g, 0, none⟩), evV e] w (DoTo w B g s t n) := by
  have b0 : Below w.heap.size w (w.alloc (.cells (evA e) 64)) := ((Below.refl _ w).alloc (Nat.le_refl _) _)
  have Hh := Lib.hid (h.all b0)
  have B0 := Lib.hid b0
  have Hk := Lib.hid hk
  have Hek := Lib.hid hek
  have Hc := Lib.hid hcall
  clear h b0 hk hek hcall
  go_enter Try.func62, Try.ntmps62
  go_wp2_with fail
  refine (check _ _).mono ?_
  rintro x w1 ⟨rfl, hb1⟩
  rw [Hk.out, errV_zero]
  have Hh1 := Lib.hid (Hh.out.all hb1)
  have hbw := B0.out.trans (hb1.mono (by simp))
  have hsz := hbw.size
  have hx := EvCells.layK (EvCells.of (below_obj hb1 (alloc_new w (.cells (evA e) 64)) (by simp))) Hek.out
  have Hbw := Lib.hid hbw
  obtain ⟨x0, x1, x2, x3, x4, x5⟩ := hx
  clear hb1 hbw
  go_wp2_with fail
  refine (Hc.out _ Hh1.out (by omega)).mono ?_
  rintro x w2 ⟨rfl, hu2, hst2⟩
  have Hu2 := Lib.hid hu2
  have Hst2 := Lib.hid hst2
  clear x0 x1 x2 x3 x4 x5 hu2 hst2
  go_wp2_with fail
  go_ret
  exact ⟨rfl, (Upd.of_below Hbw.out).trans Hu2.out (fun _ _ h => h), Hst2.out⟩

theorem lst_nat (s : St) (i : Nat) : lst s (i : Int) = s.l.getD i [] := rfl
theorem do_ (w : World) (B g : Nat) (cs : Array Value) (s : St) (h : StAt w B g s cs) (ok : StOk s) (hB : B ≤ w.heap.size) (fits : Fits s 100000) (e : Ev) :
    Calls Try.prog 62 #[.pointer (some ⟨g, 0, none⟩), evV e] w (DoTo w B g s (doS s e) (doN s e)) := by
  by_cases hc : chk e = 0
  rotate_left
  · exact doBad w B g cs s _ h e _ (by simp [doN, hc]) (by simp [doN, hc])
  obtain ⟨h0, h6, _, _⟩ := chk_zero hc
  by_cases hk0 : e.k = 0
  · refine doMake w B g cs s _ h hB e hc hk0 _ (fun w1 h1 hB1 => ?_)
    rw [evK_eq hk0]
    by_cases hf : 400 ≤ s.o.length
    · rw [show doN s e = 5 by simp [doN, hc, hk0, hf], show doS s e = mkS s e by simp [doS, hk0]]
      exact createFull w1 B g cs s h1 e hf
    · rw [show doN s e = 0 by simp [doN, hc, hk0, hf], show doS s e = mkS s e by simp [doS, hk0]]
      exact createOk w1 B g cs s h1 ok hB1 e (by omega) fits
  by_cases hk5 : e.k = 5
  · refine doUnmake w B g cs s _ h hB e hc hk5 _ (fun w1 h1 hB1 => ?_)
    rw [evK_eq hk5]
    rw [show doS s e = rmS s by simp [doS, hk5]]
    have hr : doN s e = if rmB s e then 0 else 20 := by simp [doN, hc, hk5]
    rcases Nat.eq_zero_or_pos s.o.length with hz | hz
    · exact removeNone w1 B g cs s h1 ok hB1 e hz _ hr
    · exact removeSome w1 B g cs s h1 ok hB1 e (s.o.length - 1) (by omega) _ hr
  by_cases hk1 : e.k = 1
  · refine doMove w B g cs s _ h hB e hc hk1 _ (fun w1 h1 hB1 => ?_)
    rw [evK_eq hk1]
    obtain ⟨ha, hb, hb', hd, hd', hcc, hee⟩ := chk_move hc hk1
    rw [show doS s e = mvS s e by simp [doS, hk1]]
    exact moveAny w1 B g cs s h1 ok hB1 e.a.toNat e.b.toNat e.c.toNat e.d.toNat e.e.toNat (by omega) (by omega) fits e (by
      obtain ⟨k, a, b, c, d, f⟩ := e
      simp at *
      omega) _ (by simp [doN, hc, hk1])
  by_cases hk2 : e.k = 2
  · obtain ⟨ha, hb, hb', _⟩ := chk_obj hc hk2
    have hn : doN s e = if s.o.length ≤ e.a.toNat then 4 else if (s.o.getD e.a.toNat []).getD e.b.toNat 0 = e.c then 0 else 20 := by
      have e1 : ((s.o.length : Int) ≤ e.a) = (s.o.length ≤ e.a.toNat) := by
        rw [eq_iff_iff]
        omega
      simp only [doN, hc, hk2, obj, e1]
      simp
    exact doObject w B g cs s h ok hB fits e e.a.toNat e.b.toNat (by omega) hk2 (by omega) (by omega) hc _ hn _ (by simp [doS, hk2, obS, obj])
  by_cases hk3 : e.k = 3
  · obtain ⟨ha, ha', hb, hb', _⟩ := chk_play hc hk3
    exact doPlayer w B g cs s h ok e e.a.toNat e.b.toNat (by omega) (by omega) hk3 (by omega) (by omega) hc _ (by simp [doN, hc, hk3, numAt]) _ (by simp [doS, hk3, numAt])
  have hk4 : e.k = 4 := by omega
  obtain ⟨ha, hb, hb', _⟩ := chk_game hc hk4
  exact doGame w B g cs s h ok e e.b.toNat (by omega) hk4 ha (by omega) hc _ (by simp [doN, hc, hk4, numAt]) _ (by simp [doS, hk4, numAt])

theorem apply (w : World) (cs : Array Value) (s : St) (h : StC w cs s) (ok : StOk s) (fits : Fits s 100000) (e : Ev) :
    Calls Try.prog 57 #[.agg cs, evV e] w (ApTo w (doS s e) (doN s e)) :=
  apply_of w cs s _ e _ h (fun i hi => fits.len i) (fun w B g cs h hB => do_ w B g cs s h ok hB fits e)
end Go.Proofs.Ytpbocficffbcbaa
