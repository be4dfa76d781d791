import Derived.Test.YtpbocficffbcbaaNumCopy
import Derived.Test.YtpbocficffbcbaaEv4
import Derived.Test.YtpbocficffbcbaaDoG
import Derived.Test.YtpbocficffbcbaaHeldT
namespace Go.Proofs.Ytpbocficffbcbaa
open Go Go.RowKit
set_option linter.unusedVariables false

/-- Behind the document's Apply. -/
def RefTo (w : World) (t : St) (n : Int) (x : Ending) (w' : World) : Prop :=
  ∃ cs, x = .returned (.tuple #[.agg cs, .int .i64 n]) ∧ StO w.heap.size w' cs (if n = 0 then t else st0) ∧ Below w.heap.size w w'

theorem EvCells.layR {w : World} {k : Nat} {e : Ev} {x0 x1 x2 x3 x4 x5 : Int} (h : EvCells w k e) (h0 : e.k = x0) (h1 : e.a = x1) (h2 : e.b = x2) (h3 : e.c = x3) (h4 : e.d = x4) (h5 : e.e = x5) : w.cell? ⟨k, 0, none⟩ = some (.int .i64 x0) ∧ w.cell? ⟨k, 1, none⟩ = some (.int .i64 x1) ∧ w.cell? ⟨k, 2, none⟩ = some (.int .i64 x2) ∧ w.cell? ⟨k, 3, none⟩ = some (.int .i64 x3) ∧ w.cell? ⟨k, 4, none⟩ = some (.int .i64 x4) ∧ w.cell? ⟨k, 5, none⟩ = some (.int .i64 x5) := by
  subst h0 h1 h2 h3 h4 h5
  exact h

set_option maxRecDepth 100000 in
set_option maxHeartbeats 1600000 in
theorem refPlay (w : World) (cs : Array Value) (s t : St) (h : StC w cs s) (ok : StOk s) (fits : Fits s 100000) (e : Ev) (hk : chk e = 0) (r : Int) (a b : Nat) (ha : a < 2) (hb : b < 9) (hek : e.k = 3) (hea : e.a = a) (heb : e.b = b) (hr : r = if s.p.getD (9 * a + b) 0 = e.c then 0 else 20) (ht : t = setP s (9 * a + b) e.d) :
    Calls Try.prog 58 #[.agg cs, evV e] w (RefTo w t r) := by
  have hsz : cs.size = 37 := h.size
  have b1 : Below w.heap.size w (((w.alloc (.cells cs 79)).alloc (.cells (evA e) 64)).alloc (.cells zSt 79)) := ((((Below.refl _ w).alloc (Nat.le_refl _) _).alloc (by simp) _).alloc (by simp; omega) _)
  have oc := alloc_obj (x := .cells zSt 79) (alloc_obj (x := .cells (evA e) 64) (alloc_new w (.cells cs 79)))
  have oe := alloc_obj (x := .cells zSt 79) (alloc_new (w.alloc (.cells cs 79)) (.cells (evA e) 64))
  have oz := alloc_new ((w.alloc (.cells cs 79)).alloc (.cells (evA e) 64)) (.cells zSt 79)
  simp only [World.size_alloc] at oe oz
  have Oc := Lib.hid oc
  have Oe := Lib.hid oe
  have Oz := Lib.hid oz
  have H1 := Lib.hid (h.all b1)
  have Hb1 := Lib.hid b1
  have Hk := Lib.hid hk
  have Ok := Lib.hid ok
  have Fi := Lib.hid fits
  have hfo := fits.o
  have H_hek := Lib.hid hek
  clear hek
  have H_hea := Lib.hid hea
  clear hea
  have H_heb := Lib.hid heb
  clear heb
  have H_hr := Lib.hid hr
  clear hr
  have H_ht := Lib.hid ht
  clear ht
  clear oc oe oz b1 h hk ok fits
  go_enter Try.func58, Try.ntmps58
  go_wp2_with fail
  refine (refCheck _ e).mono ?_
  rintro x w1 ⟨rfl, hb1⟩
  rw [Hk.out]
  have Oc1 := Lib.hid (below_obj hb1 Oc.out (by simp; omega))
  have Oe1 := Lib.hid (below_obj hb1 Oe.out (by simp))
  have Oz1 := Lib.hid (below_obj hb1 Oz.out (by simp))
  have H2 := Lib.hid (H1.out.all hb1)
  have Hb2 := Lib.hid (Hb1.out.trans (hb1.mono (by simp; omega)))
  have hw1 : w.heap.size + 3 ≤ w1.heap.size := by have := hb1.size; simp at this; omega
  clear hb1
  go_wp2_with (refine wpList_load_whole rfl 79 (.tmp 2) rfl w.heap.size rfl 79 cs (0, 0) Oc1.out _ Try.underlying79 rfl (by rw [hsz]; exact Try.sizeSt) ?_)
  refine (numCopy _ cs s H2.out (fun i hi => Fi.out.len i)).mono ?_
  rintro x wa ⟨cz, rfl, hown, hba⟩
  have hcz : cz.size = 37 := hown.size
  have On1 := Lib.hid (alloc_new wa (.cells zSt 79))
  have hwa := hba.size
  have Hba := Lib.hid hba
  have Hown := Lib.hid hown
  clear hba hown
  go_wp2_with (refine wpList_store_whole rfl 79 (.tmp 7) (.tmp 19) rfl wa.heap.size rfl 79 zSt cz rfl On1.out (by rw [hcz]; exact Try.sizeSt) (by rw [hcz]; rfl) Hown.out.c.one ?_; intro wb hobj hupd; have Hst := Lib.hid (StAt.stored Hown.out hobj hupd); have hwb := hupd.size; rw [World.size_alloc] at hwb; have Oeb := Lib.hid (hupd.obj (alloc_obj (x := .cells zSt 79) (below_obj Hba.out Oe1.out (by omega))) (by intro hq; change _ = _ at hq; omega)); have Ozb := Lib.hid (hupd.obj (alloc_obj (x := .cells zSt 79) (below_obj Hba.out Oz1.out (by omega))) (by intro hq; change _ = _ at hq; omega)); have Hbb := Lib.hid (Hb2.out.trans ((Hba.out.mono (by omega)).trans ((((Below.refl _ wa).alloc (Nat.le_refl _) _).mono (by omega)).trans (hupd.below (by simp; omega) (fun k hk hb => by change _ = _ at hb; omega))))); obtain ⟨a0, c0, h0, r0, f0⟩ := Hst.out.own.sz0; have k0 := (obj_cell Hst.out.obj 0).trans h0; have hc0 := r0.le; have hm0 := r0.max; unfold maxLen at hm0; have R0 := Lib.hid r0; have H0 := Lib.hid h0; obtain ⟨x0, x1, x2, x3, x4, x5⟩ := EvCells.layR (EvCells.of Oeb.out) H_hek.out H_hea.out H_heb.out rfl rfl rfl; clear hobj hupd h0 r0 f0)
  have kc : wb.cell? ⟨wa.heap.size, 12 + a * 9 + b, none⟩ = some (.int .i64 (s.p.getD (9 * a + b) 0)) := (obj_cell Hst.out.obj _).trans (by rw [show 12 + a * 9 + b = 12 + (9 * a + b) by omega]; exact Hst.out.own.num (9 * a + b) (by omega))
  obtain ⟨z, hz⟩ : ∃ z, z = s.p.getD (9 * a + b) 0 := ⟨_, rfl⟩
  rw [← hz] at kc H_hr
  have Hz := Lib.hid hz
  clear hz
  have hai : (a : Int) < 2 := by omega
  have hbi : (b : Int) < 9 := by omega
  by_cases hze : z = e.c
  rotate_left
  · have hzz : (z != e.c) = true := by simp [hze]
    have Hr2 := Lib.hid (show r = 20 by rw [H_hr.out, if_neg hze])
    clear hze
    go_quiet (fail)
    have hq0 : Below wb.heap.size wb (wb.drewN nq) := (((Q.refl wb).drewN nq).below _)
    have Hstq := Lib.hid (Hst.out.all hq0)
    have Oeq := Lib.hid (below_obj hq0 Oeb.out (obj_lt Oeb.out))
    have Ozq := Lib.hid (below_obj hq0 Ozb.out (obj_lt Ozb.out))
    have Hbq := Lib.hid (Hbb.out.trans (hq0.mono Hbb.out.size))
    have hwq := hq0.size
    clear hq0 k0 x0 x1 x2 x3 x4 x5 kc
    generalize wb.drewN nq = wq at *
    go_wp2_with (refine wpList_store_whole rfl 79 (.tmp 4) (.tmp 256) rfl (w.heap.size + 1 + 1) rfl 79 zSt zSt rfl Ozq.out Try.sizeSt rfl (zSt_O 0 w).c.one ?_; intro wz hobj hupdz)
    refine bodyPost_ret (results_cell_slot rfl _ wz (w.heap.size + 1 + 1) 79 zSt (0, 0) _ rfl hobj Try.underlying79 rfl Try.sizeSt) rfl ?_
    exact ⟨zSt, by rw [Hr2.out]; rfl, by rw [Hr2.out, if_neg (by decide)]; exact zSt_O _ _, (Hbq.out).trans (hupdz.below (by have := Hbb.out.size; have := (Hbq.out).size; omega) (fun k hk hb => by change _ = _ at hb; omega))⟩
  have hzz : (z != e.c) = false := by simp [hze]
  have Hr2 := Lib.hid (show r = 0 by rw [H_hr.out, if_pos hze])
  clear hze
  go_quiet (fail)
  clear hzz
  have hq0 : Below wb.heap.size wb (wb.drewN nq) := (((Q.refl wb).drewN nq).below _)
  have Hstq := Lib.hid (Hst.out.all hq0)
  have Oeq := Lib.hid (below_obj hq0 Oeb.out (obj_lt Oeb.out))
  have Ozq := Lib.hid (below_obj hq0 Ozb.out (obj_lt Ozb.out))
  have Hbq := Lib.hid (Hbb.out.trans (hq0.mono Hbb.out.size))
  have hwq := hq0.size
  clear hq0 k0 x0 x1 x2 x3 x4 x5 kc
  generalize wb.drewN nq = wq at *
  have HT := Lib.hid (EvCells.layR (EvCells.of Oeq.out) H_hek.out H_hea.out H_heb.out rfl rfl rfl)
  have kf := obj_free Hstq.out.obj (12 + a * 9 + b)
  have kc : wq.cell? ⟨wa.heap.size, 12 + a * 9 + b, none⟩ = some (.int .i64 (s.p.getD (9 * a + b) 0)) := (obj_cell Hstq.out.obj _).trans (by rw [show 12 + a * 9 + b = 12 + (9 * a + b) by omega]; exact Hstq.out.own.num (9 * a + b) (by omega))
  rw [← Hz.out] at kc
  go_wp2_with fail
  refine wp_region_T 9 (fun x => x.cell? ⟨w.heap.size + 1, 0, none⟩ = some (.int .i64 3) ∧ x.cell? ⟨w.heap.size + 1, 1, none⟩ = some (.int .i64 (a : Int)) ∧ x.cell? ⟨w.heap.size + 1, 2, none⟩ = some (.int .i64 (b : Int)) ∧ x.cell? ⟨w.heap.size + 1, 3, none⟩ = some (.int .i64 e.c) ∧ x.cell? ⟨w.heap.size + 1, 4, none⟩ = some (.int .i64 e.d) ∧ x.cell? ⟨w.heap.size + 1, 5, none⟩ = some (.int .i64 e.e)) (by kernel_rfl) HT.out (fun hHeld => ?_)
  refine wpAnyT_takeU (i := 0) (oi := ⟨some 257, _, _, _, _, _⟩) (v := ?_) rfl (by kernel_rfl) (by kernel_rfl) (by kernel_rfl) (by kernel_rfl) (fun _ _ _ h => h) (Or.inl ⟨by rfl, ?_⟩) (fun _ => hHeld) ?_
  rotate_left
  · intro w' hS'
    (try dsimp only at hS')
    go_simp
    try with_reducible rfl
  try simp only [Act.put, List.setIfInBounds_toArray, List.set_cons_zero, List.set_cons_succ]
  refine wpAnyT_take (i := 1) (oi := ⟨some 258, _, _, _, _, _⟩) (v := ?_) rfl (by kernel_rfl) (by kernel_rfl) (by kernel_rfl) (by kernel_rfl) (fun _ _ _ h => h) (Or.inl ⟨by rfl, ?_⟩) hHeld ?_
  rotate_left
  · intro w' hS'
    (try dsimp only at hS')
    go_simp
    try with_reducible rfl
  try simp only [Act.put, List.setIfInBounds_toArray, List.set_cons_zero, List.set_cons_succ]
  refine wpAnyT_takeU (i := 2) (oi := ⟨some 259, _, _, _, _, _⟩) (v := ?_) rfl (by kernel_rfl) (by kernel_rfl) (by kernel_rfl) (by kernel_rfl) (fun _ _ _ h => h) (Or.inl ⟨by rfl, ?_⟩) (fun _ => hHeld) ?_
  rotate_left
  · intro w' hS'
    (try dsimp only at hS')
    go_simp
    try with_reducible rfl
  try simp only [Act.put, List.setIfInBounds_toArray, List.set_cons_zero, List.set_cons_succ]
  refine wpAnyT_take (i := 3) (oi := ⟨some 260, _, _, _, _, _⟩) (v := ?_) rfl (by kernel_rfl) (by kernel_rfl) (by kernel_rfl) (by kernel_rfl) (fun _ _ _ h => h) (Or.inl ⟨by rfl, ?_⟩) hHeld ?_
  rotate_left
  · intro w' hS'
    (try dsimp only at hS')
    go_simp
    try with_reducible rfl
  try simp only [Act.put, List.setIfInBounds_toArray, List.set_cons_zero, List.set_cons_succ]
  refine wpAnyT_takeU (i := 4) (oi := ⟨some 261, _, _, _, _, _⟩) (v := ?_) rfl (by kernel_rfl) (by kernel_rfl) (by kernel_rfl) (by kernel_rfl) (fun _ _ _ h => h) (Or.inl ⟨by rfl, ?_⟩) (fun _ => hHeld) ?_
  rotate_left
  · intro w' hS'
    (try dsimp only at hS')
    go_simp
    try with_reducible rfl
  try simp only [Act.put, List.setIfInBounds_toArray, List.set_cons_zero, List.set_cons_succ]
  refine wpAnyT_take (i := 5) (oi := ⟨some 262, _, _, _, _, _⟩) (v := ?_) rfl (by kernel_rfl) (by kernel_rfl) (by kernel_rfl) (by kernel_rfl) (fun _ _ _ h => h) (Or.inl ⟨by rfl, ?_⟩) hHeld ?_
  rotate_left
  · intro w' hS'
    (try dsimp only at hS')
    go_simp
    try with_reducible rfl
  try simp only [Act.put, List.setIfInBounds_toArray, List.set_cons_zero, List.set_cons_succ]
  refine wpAnyT_takeU (i := 6) (oi := ⟨some 263, _, _, _, _, _⟩) (v := ?_) rfl (by kernel_rfl) (by kernel_rfl) (by kernel_rfl) (by kernel_rfl) (fun _ _ _ h => h) (Or.inl ⟨by rfl, ?_⟩) (fun _ => hHeld) ?_
  rotate_left
  · intro w' hS'
    (try dsimp only at hS')
    go_simp
    try with_reducible rfl
  try simp only [Act.put, List.setIfInBounds_toArray, List.set_cons_zero, List.set_cons_succ]
  refine wpAnyT_takeU (i := 7) (oi := ⟨some 264, _, _, _, _, _⟩) (v := ?_) rfl (by kernel_rfl) (by kernel_rfl) (by kernel_rfl) (by kernel_rfl) (fun _ _ _ h => h) (Or.inl ⟨by rfl, ?_⟩) (fun _ => hHeld) ?_
  rotate_left
  · intro w' hS'
    (try dsimp only at hS')
    go_simp
    try with_reducible rfl
  try simp only [Act.put, List.setIfInBounds_toArray, List.set_cons_zero, List.set_cons_succ]
  refine wpAnyT_takeU (i := 8) (oi := ⟨some 265, _, _, _, _, _⟩) (v := ?_) rfl (by kernel_rfl) (by kernel_rfl) (by kernel_rfl) (by kernel_rfl) (fun _ _ _ h => h) (Or.inl ⟨by rfl, ?_⟩) (fun _ => hHeld) ?_
  rotate_left
  · intro w' hS'
    (try dsimp only at hS')
    go_simp
    try with_reducible rfl
  try simp only [Act.put, List.setIfInBounds_toArray, List.set_cons_zero, List.set_cons_succ]
  refine wpAnyT_all (rs := [9]) (by kernel_rfl) (by simp) ?_
  intro ix hix
  obtain rfl : ix = 9 := by simpa using hix
  clear hix
  refine wpOp_step (o := ⟨none, _, _, _, _, _⟩) rfl (fun K hK => ?_)
  have HK := Lib.hid hK
  clear hK
  go_simp
  go_wp2_with fail
  refine HK.out _ _ ⟨tl (by kernel_rfl), ?_⟩
  clear HK
  try clear hHeld
  try simp only [Act.put, List.setIfInBounds_toArray, List.set_cons_zero, List.set_cons_succ]
  refine wpAnyT_done (by kernel_rfl) ?_ _
  have hst3 := (Hstq.out.setP (9 * a + b) (by omega) Ok.out.p e.d).all (w' := (wq.setCell ⟨wa.heap.size, 12 + a * 9 + b, none⟩ (.int .i64 e.d)).drew) (by rw [show 12 + a * 9 + b = 12 + (9 * a + b) by omega]; exact (Below.refl _ _).drew)
  rw [← H_ht.out] at hst3
  have Hst3 := Lib.hid hst3
  have Oz3 := Lib.hid (show ((wq.setCell ⟨wa.heap.size, 12 + a * 9 + b, none⟩ (.int .i64 e.d)).drew).heap[w.heap.size + 1 + 1]? = _ from setCell_obj (p := ⟨wa.heap.size, 12 + a * 9 + b, none⟩) Ozq.out (by show w.heap.size + 1 + 1 ≠ wa.heap.size; omega))
  have hb3 : Below w.heap.size w ((wq.setCell ⟨wa.heap.size, 12 + a * 9 + b, none⟩ (.int .i64 e.d)).drew) := (Hbq.out.setCell (by show w.heap.size ≤ wa.heap.size; omega) _).drew
  have Hb3 := Lib.hid hb3
  generalize (wq.setCell ⟨wa.heap.size, 12 + a * 9 + b, none⟩ (.int .i64 e.d)).drew = w3 at *
  clear hst3 hb3 kf kc
  have hcd := Hst3.out.own.size
  go_wp2_with (first | (refine wpList_load_whole rfl 79 (.tmp 7) rfl wa.heap.size rfl 79 _ (0, 0) Hst3.out.obj _ Try.underlying79 rfl (by rw [hcd]; exact Try.sizeSt) ?_) | (refine wpList_store_whole rfl 79 (.tmp 4) (.tmp 266) rfl (w.heap.size + 1 + 1) rfl 79 zSt _ rfl Oz3.out (by rw [hcd]; exact Try.sizeSt) (by rw [hcd]; rfl) Hst3.out.own.c.one ?_; intro wz hobj hupdz))
  refine bodyPost_ret (results_cell_slot rfl _ wz (w.heap.size + 1 + 1) 79 _ (0, 0) _ rfl hobj Try.underlying79 rfl (by rw [hcd]; exact Try.sizeSt)) rfl ?_
  exact ⟨_, by rw [Hr2.out]; rfl, by rw [Hr2.out, if_pos rfl]; exact (Hst3.out.own.upd hupdz (fun i a c hi he ad hd hb => by have h9 := Hst3.out.own.fresh i a c hi he ad hd; change _ = _ at hb; omega)).mono (by omega), (Hb3.out).trans (hupdz.below (by have := (Hb3.out).size; omega) (fun k hk hb => by change _ = _ at hb; omega))⟩

set_option maxRecDepth 100000 in
set_option maxHeartbeats 1600000 in
theorem refGame (w : World) (cs : Array Value) (s t : St) (h : StC w cs s) (ok : StOk s) (fits : Fits s 100000) (e : Ev) (hk : chk e = 0) (r : Int) (b : Nat) (hb : b < 7) (hek : e.k = 4) (hea : e.a = 0) (heb : e.b = b) (hr : r = if s.p.getD (18 + b) 0 = e.c then 0 else 20) (ht : t = setP s (18 + b) e.d) :
    Calls Try.prog 58 #[.agg cs, evV e] w (RefTo w t r) := by
  have hsz : cs.size = 37 := h.size
  have b1 : Below w.heap.size w (((w.alloc (.cells cs 79)).alloc (.cells (evA e) 64)).alloc (.cells zSt 79)) := ((((Below.refl _ w).alloc (Nat.le_refl _) _).alloc (by simp) _).alloc (by simp; omega) _)
  have oc := alloc_obj (x := .cells zSt 79) (alloc_obj (x := .cells (evA e) 64) (alloc_new w (.cells cs 79)))
  have oe := alloc_obj (x := .cells zSt 79) (alloc_new (w.alloc (.cells cs 79)) (.cells (evA e) 64))
  have oz := alloc_new ((w.alloc (.cells cs 79)).alloc (.cells (evA e) 64)) (.cells zSt 79)
  simp only [World.size_alloc] at oe oz
  have Oc := Lib.hid oc
  have Oe := Lib.hid oe
  have Oz := Lib.hid oz
  have H1 := Lib.hid (h.all b1)
  have Hb1 := Lib.hid b1
  have Hk := Lib.hid hk
  have Ok := Lib.hid ok
  have Fi := Lib.hid fits
  have hfo := fits.o
  have H_hek := Lib.hid hek
  clear hek
  have H_hea := Lib.hid hea
  clear hea
  have H_heb := Lib.hid heb
  clear heb
  have H_hr := Lib.hid hr
  clear hr
  have H_ht := Lib.hid ht
  clear ht
  clear oc oe oz b1 h hk ok fits
  go_enter Try.func58, Try.ntmps58
  go_wp2_with fail
  refine (refCheck _ e).mono ?_
  rintro x w1 ⟨rfl, hb1⟩
  rw [Hk.out]
  have Oc1 := Lib.hid (below_obj hb1 Oc.out (by simp; omega))
  have Oe1 := Lib.hid (below_obj hb1 Oe.out (by simp))
  have Oz1 := Lib.hid (below_obj hb1 Oz.out (by simp))
  have H2 := Lib.hid (H1.out.all hb1)
  have Hb2 := Lib.hid (Hb1.out.trans (hb1.mono (by simp; omega)))
  have hw1 : w.heap.size + 3 ≤ w1.heap.size := by have := hb1.size; simp at this; omega
  clear hb1
  go_wp2_with (refine wpList_load_whole rfl 79 (.tmp 2) rfl w.heap.size rfl 79 cs (0, 0) Oc1.out _ Try.underlying79 rfl (by rw [hsz]; exact Try.sizeSt) ?_)
  refine (numCopy _ cs s H2.out (fun i hi => Fi.out.len i)).mono ?_
  rintro x wa ⟨cz, rfl, hown, hba⟩
  have hcz : cz.size = 37 := hown.size
  have On1 := Lib.hid (alloc_new wa (.cells zSt 79))
  have hwa := hba.size
  have Hba := Lib.hid hba
  have Hown := Lib.hid hown
  clear hba hown
  go_wp2_with (refine wpList_store_whole rfl 79 (.tmp 7) (.tmp 19) rfl wa.heap.size rfl 79 zSt cz rfl On1.out (by rw [hcz]; exact Try.sizeSt) (by rw [hcz]; rfl) Hown.out.c.one ?_; intro wb hobj hupd; have Hst := Lib.hid (StAt.stored Hown.out hobj hupd); have hwb := hupd.size; rw [World.size_alloc] at hwb; have Oeb := Lib.hid (hupd.obj (alloc_obj (x := .cells zSt 79) (below_obj Hba.out Oe1.out (by omega))) (by intro hq; change _ = _ at hq; omega)); have Ozb := Lib.hid (hupd.obj (alloc_obj (x := .cells zSt 79) (below_obj Hba.out Oz1.out (by omega))) (by intro hq; change _ = _ at hq; omega)); have Hbb := Lib.hid (Hb2.out.trans ((Hba.out.mono (by omega)).trans ((((Below.refl _ wa).alloc (Nat.le_refl _) _).mono (by omega)).trans (hupd.below (by simp; omega) (fun k hk hb => by change _ = _ at hb; omega))))); obtain ⟨a0, c0, h0, r0, f0⟩ := Hst.out.own.sz0; have k0 := (obj_cell Hst.out.obj 0).trans h0; have hc0 := r0.le; have hm0 := r0.max; unfold maxLen at hm0; have R0 := Lib.hid r0; have H0 := Lib.hid h0; obtain ⟨x0, x1, x2, x3, x4, x5⟩ := EvCells.layR (EvCells.of Oeb.out) H_hek.out H_hea.out H_heb.out rfl rfl rfl; clear hobj hupd h0 r0 f0)
  have kc : wb.cell? ⟨wa.heap.size, 30 + b, none⟩ = some (.int .i64 (s.p.getD (18 + b) 0)) := (obj_cell Hst.out.obj _).trans (by rw [show 30 + b = 12 + (18 + b) by omega]; exact Hst.out.own.num (18 + b) (by omega))
  obtain ⟨z, hz⟩ : ∃ z, z = s.p.getD (18 + b) 0 := ⟨_, rfl⟩
  rw [← hz] at kc H_hr
  have Hz := Lib.hid hz
  clear hz
  have hbi : (b : Int) < 7 := by omega
  by_cases hze : z = e.c
  rotate_left
  · have hzz : (z != e.c) = true := by simp [hze]
    have Hr2 := Lib.hid (show r = 20 by rw [H_hr.out, if_neg hze])
    clear hze
    go_quiet (fail)
    have hq0 : Below wb.heap.size wb (wb.drewN nq) := (((Q.refl wb).drewN nq).below _)
    have Hstq := Lib.hid (Hst.out.all hq0)
    have Oeq := Lib.hid (below_obj hq0 Oeb.out (obj_lt Oeb.out))
    have Ozq := Lib.hid (below_obj hq0 Ozb.out (obj_lt Ozb.out))
    have Hbq := Lib.hid (Hbb.out.trans (hq0.mono Hbb.out.size))
    have hwq := hq0.size
    clear hq0 k0 x0 x1 x2 x3 x4 x5 kc
    generalize wb.drewN nq = wq at *
    go_wp2_with (refine wpList_store_whole rfl 79 (.tmp 4) (.tmp 33) rfl (w.heap.size + 1 + 1) rfl 79 zSt zSt rfl Ozq.out Try.sizeSt rfl (zSt_O 0 w).c.one ?_; intro wz hobj hupdz)
    refine bodyPost_ret (results_cell_slot rfl _ wz (w.heap.size + 1 + 1) 79 zSt (0, 0) _ rfl hobj Try.underlying79 rfl Try.sizeSt) rfl ?_
    exact ⟨zSt, by rw [Hr2.out]; rfl, by rw [Hr2.out, if_neg (by decide)]; exact zSt_O _ _, (Hbq.out).trans (hupdz.below (by have := Hbb.out.size; have := (Hbq.out).size; omega) (fun k hk hb => by change _ = _ at hb; omega))⟩
  have hzz : (z != e.c) = false := by simp [hze]
  have Hr2 := Lib.hid (show r = 0 by rw [H_hr.out, if_pos hze])
  clear hze
  go_quiet (fail)
  clear hzz
  have hq0 : Below wb.heap.size wb (wb.drewN nq) := (((Q.refl wb).drewN nq).below _)
  have Hstq := Lib.hid (Hst.out.all hq0)
  have Oeq := Lib.hid (below_obj hq0 Oeb.out (obj_lt Oeb.out))
  have Ozq := Lib.hid (below_obj hq0 Ozb.out (obj_lt Ozb.out))
  have Hbq := Lib.hid (Hbb.out.trans (hq0.mono Hbb.out.size))
  have hwq := hq0.size
  clear hq0 k0 x0 x1 x2 x3 x4 x5 kc
  generalize wb.drewN nq = wq at *
  have HT := Lib.hid (EvCells.layR (EvCells.of Oeq.out) H_hek.out H_hea.out H_heb.out rfl rfl rfl)
  have kf := obj_free Hstq.out.obj (30 + b)
  have kc : wq.cell? ⟨wa.heap.size, 30 + b, none⟩ = some (.int .i64 (s.p.getD (18 + b) 0)) := (obj_cell Hstq.out.obj _).trans (by rw [show 30 + b = 12 + (18 + b) by omega]; exact Hstq.out.own.num (18 + b) (by omega))
  rw [← Hz.out] at kc
  obtain ⟨x0, x1, x2, x3, x4, x5⟩ := HT.out
  have hst3 := (Hstq.out.setP (18 + b) (by omega) Ok.out.p e.d).all (w' := (wq.setCell ⟨wa.heap.size, 30 + b, none⟩ (.int .i64 e.d))) (by rw [show 30 + b = 12 + (18 + b) by omega]; exact Below.refl _ _)
  rw [← H_ht.out] at hst3
  have Hst3 := Lib.hid hst3
  have Oz3 := Lib.hid (show ((wq.setCell ⟨wa.heap.size, 30 + b, none⟩ (.int .i64 e.d))).heap[w.heap.size + 1 + 1]? = _ from setCell_obj (p := ⟨wa.heap.size, 30 + b, none⟩) Ozq.out (by show w.heap.size + 1 + 1 ≠ wa.heap.size; omega))
  have hb3 : Below w.heap.size w ((wq.setCell ⟨wa.heap.size, 30 + b, none⟩ (.int .i64 e.d))) := (Hbq.out.setCell (by show w.heap.size ≤ wa.heap.size; omega) _)
  have Hb3 := Lib.hid hb3
  skip
  clear hst3 hb3
  have hcd := Hst3.out.own.size
  go_wp2_with (first | (refine wpList_load_whole rfl 79 (.tmp 7) rfl wa.heap.size rfl 79 _ (0, 0) Hst3.out.obj _ Try.underlying79 rfl (by rw [hcd]; exact Try.sizeSt) ?_) | (refine wpList_store_whole rfl 79 (.tmp 4) (.tmp 266) rfl (w.heap.size + 1 + 1) rfl 79 zSt _ rfl Oz3.out (by rw [hcd]; exact Try.sizeSt) (by rw [hcd]; rfl) Hst3.out.own.c.one ?_; intro wz hobj hupdz))
  refine bodyPost_ret (results_cell_slot rfl _ wz (w.heap.size + 1 + 1) 79 _ (0, 0) _ rfl hobj Try.underlying79 rfl (by rw [hcd]; exact Try.sizeSt)) rfl ?_
  exact ⟨_, by rw [Hr2.out]; rfl, by rw [Hr2.out, if_pos rfl]; exact (Hst3.out.own.upd hupdz (fun i a c hi he ad hd hb => by have h9 := Hst3.out.own.fresh i a c hi he ad hd; change _ = _ at hb; omega)).mono (by omega), (Hb3.out).trans (hupdz.below (by have := (Hb3.out).size; omega) (fun k hk hb => by change _ = _ at hb; omega))⟩
end Go.Proofs.Ytpbocficffbcbaa
