import Derived.Test.YtpbocficffbcbaaNumCopy
import Derived.Test.YtpbocficffbcbaaEv4
import Derived.Test.YtpbocficffbcbaaDoG
import Derived.Test.YtpbocficffbcbaaHeldT
import Derived.Test.YtpbocficffbcbaaRefP
namespace Go.Proofs.Ytpbocficffbcbaa
open Go Go.RowKit
set_option linter.unusedVariables false

set_option maxRecDepth 100000 in
set_option maxHeartbeats 1600000 in
theorem refObjNone (w : World) (cs : Array Value) (s t : St) (h : StC w cs s) (ok : StOk s) (fits : Fits s 100000) (e : Ev) (hk : chk e = 0) (r : Int) (a : Nat) (hek : e.k = 2) (hea : e.a = a) (hlen : s.o.length ≤ a) (hr : r = 4) :
    Calls Try.prog 58 #[.agg cs, evV e] w (RefTo w t r) := by
  have hsz : cs.size = 37 := h.size
  have b1 : Below w.heap.size w (((w.alloc (.cells cs 79)).alloc (.cells (evA e) 64)).alloc (.cells zSt 79)) := ((((Below.refl _ w).alloc (Nat.le_refl _) _).alloc (by simp) _).alloc (by simp; omega) _)
  have oc := alloc_obj (x := .cells zSt 79) (alloc_obj (x := .cells (evA e) 64) (alloc_new w (.cells cs 79)))
  have oe := alloc_obj (x := .cells zSt 79) (alloc_new (w.alloc (.cells cs 79)) (.cells (evA e) 64))
  have oz := alloc_new ((w.alloc (.cells cs 79)).alloc (.cells (evA e) 64)) (.cells zSt 79)
  simp only [World.size_alloc] at oe oz
  have Oc := Lib.hid oc
  have Oe := Lib.hid oe
  have Oz := Lib.hid oz
  have H1 := Lib.hid (h.all b1)
  have Hb1 := Lib.hid b1
  have Hk := Lib.hid hk
  have Ok := Lib.hid ok
  have Fi := Lib.hid fits
  have hfo := fits.o
  have H_hek := Lib.hid hek
  clear hek
  have H_hea := Lib.hid hea
  clear hea
  have H_hr := Lib.hid hr
  clear hr
  clear oc oe oz b1 h hk ok fits
  go_enter Try.func58, Try.ntmps58
  go_wp2_with fail
  refine (refCheck _ e).mono ?_
  rintro x w1 ⟨rfl, hb1⟩
  rw [Hk.out]
  have Oc1 := Lib.hid (below_obj hb1 Oc.out (by simp; omega))
  have Oe1 := Lib.hid (below_obj hb1 Oe.out (by simp))
  have Oz1 := Lib.hid (below_obj hb1 Oz.out (by simp))
  have H2 := Lib.hid (H1.out.all hb1)
  have Hb2 := Lib.hid (Hb1.out.trans (hb1.mono (by simp; omega)))
  have hw1 : w.heap.size + 3 ≤ w1.heap.size := by have := hb1.size; simp at this; omega
  clear hb1
  go_wp2_with (refine wpList_load_whole rfl 79 (.tmp 2) rfl w.heap.size rfl 79 cs (0, 0) Oc1.out _ Try.underlying79 rfl (by rw [hsz]; exact Try.sizeSt) ?_)
  refine (numCopy _ cs s H2.out (fun i hi => Fi.out.len i)).mono ?_
  rintro x wa ⟨cz, rfl, hown, hba⟩
  have hcz : cz.size = 37 := hown.size
  have On1 := Lib.hid (alloc_new wa (.cells zSt 79))
  have hwa := hba.size
  have Hba := Lib.hid hba
  have Hown := Lib.hid hown
  clear hba hown
  go_wp2_with (first | (refine wpList_store_whole rfl 79 (.tmp 7) (.tmp 19) rfl wa.heap.size rfl 79 zSt cz rfl On1.out (by rw [hcz]; exact Try.sizeSt) (by rw [hcz]; rfl) Hown.out.c.one ?_; intro wb hobj hupd; have Hst := Lib.hid (StAt.stored Hown.out hobj hupd); have hwb := hupd.size; rw [World.size_alloc] at hwb; have Oeb := Lib.hid (hupd.obj (alloc_obj (x := .cells zSt 79) (below_obj Hba.out Oe1.out (by omega))) (by intro hq; change _ = _ at hq; omega)); have Ozb := Lib.hid (hupd.obj (alloc_obj (x := .cells zSt 79) (below_obj Hba.out Oz1.out (by omega))) (by intro hq; change _ = _ at hq; omega)); have Hbb := Lib.hid (Hb2.out.trans ((Hba.out.mono (by omega)).trans ((((Below.refl _ wa).alloc (Nat.le_refl _) _).mono (by omega)).trans (hupd.below (by simp; omega) (fun k hk hb => by change _ = _ at hb; omega))))); obtain ⟨a0, c0, h0, r0, f0⟩ := Hst.out.own.sz0; have k0 := (obj_cell Hst.out.obj 0).trans h0; have hc0 := r0.le; have hm0 := r0.max; unfold maxLen at hm0; have R0 := Lib.hid r0; have H0 := Lib.hid h0; obtain ⟨x0, x1, x2, x3, x4, x5⟩ := EvCells.layR (EvCells.of Oeb.out) H_hek.out H_hea.out rfl rfl rfl rfl; clear hobj hupd h0 r0 f0) | (refine wpList_store_whole rfl 79 (.tmp 4) (.tmp 219) rfl (w.heap.size + 1 + 1) rfl 79 zSt zSt rfl Ozb.out Try.sizeSt rfl (zSt_O 0 w).c.one ?_; intro wz hobj hupdz))
  refine bodyPost_ret (results_cell_slot rfl _ wz (w.heap.size + 1 + 1) 79 zSt (0, 0) _ rfl hobj Try.underlying79 rfl Try.sizeSt) rfl ?_
  exact ⟨zSt, by rw [H_hr.out]; rfl, by rw [H_hr.out, if_neg (by decide)]; exact zSt_O _ _, (Hbb.out).trans (hupdz.below (by have := Hbb.out.size; have := (Hbb.out).size; omega) (fun k hk hb => by change _ = _ at hb; omega))⟩

set_option maxRecDepth 100000 in
set_option maxHeartbeats 1600000 in
theorem refObj (w : World) (cs : Array Value) (s t : St) (h : StC w cs s) (ok : StOk s) (fits : Fits s 100000) (e : Ev) (hk : chk e = 0) (r : Int) (a b : Nat) (hb : b < 18) (hek : e.k = 2) (hea : e.a = a) (heb : e.b = b) (hlen' : a < s.o.length) (hai : (a : Int) < (s.o.length : Int)) (hbi : (b : Int) < 18) (hr : r = if (s.o.getD a []).getD b 0 = e.c then 0 else 20) (ht : t = ⟨s.o.set a ((s.o.getD a []).set b e.d), s.l, s.p⟩) :
    Calls Try.prog 58 #[.agg cs, evV e] w (RefTo w t r) := by
  have hsz : cs.size = 37 := h.size
  have b1 : Below w.heap.size w (((w.alloc (.cells cs 79)).alloc (.cells (evA e) 64)).alloc (.cells zSt 79)) := ((((Below.refl _ w).alloc (Nat.le_refl _) _).alloc (by simp) _).alloc (by simp; omega) _)
  have oc := alloc_obj (x := .cells zSt 79) (alloc_obj (x := .cells (evA e) 64) (alloc_new w (.cells cs 79)))
  have oe := alloc_obj (x := .cells zSt 79) (alloc_new (w.alloc (.cells cs 79)) (.cells (evA e) 64))
  have oz := alloc_new ((w.alloc (.cells cs 79)).alloc (.cells (evA e) 64)) (.cells zSt 79)
  simp only [World.size_alloc] at oe oz
  have Oc := Lib.hid oc
  have Oe := Lib.hid oe
  have Oz := Lib.hid oz
  have H1 := Lib.hid (h.all b1)
  have Hb1 := Lib.hid b1
  have Hk := Lib.hid hk
  have Ok := Lib.hid ok
  have Fi := Lib.hid fits
  have hfo := fits.o
  have H_hek := Lib.hid hek
  clear hek
  have H_hea := Lib.hid hea
  clear hea
  have H_heb := Lib.hid heb
  clear heb
  have H_hr := Lib.hid hr
  clear hr
  have H_ht := Lib.hid ht
  clear ht
  clear oc oe oz b1 h hk ok fits
  go_enter Try.func58, Try.ntmps58
  go_wp2_with fail
  refine (refCheck _ e).mono ?_
  rintro x w1 ⟨rfl, hb1⟩
  rw [Hk.out]
  have Oc1 := Lib.hid (below_obj hb1 Oc.out (by simp; omega))
  have Oe1 := Lib.hid (below_obj hb1 Oe.out (by simp))
  have Oz1 := Lib.hid (below_obj hb1 Oz.out (by simp))
  have H2 := Lib.hid (H1.out.all hb1)
  have Hb2 := Lib.hid (Hb1.out.trans (hb1.mono (by simp; omega)))
  have hw1 : w.heap.size + 3 ≤ w1.heap.size := by have := hb1.size; simp at this; omega
  clear hb1
  go_wp2_with (refine wpList_load_whole rfl 79 (.tmp 2) rfl w.heap.size rfl 79 cs (0, 0) Oc1.out _ Try.underlying79 rfl (by rw [hsz]; exact Try.sizeSt) ?_)
  refine (numCopy _ cs s H2.out (fun i hi => Fi.out.len i)).mono ?_
  rintro x wa ⟨cz, rfl, hown, hba⟩
  have hcz : cz.size = 37 := hown.size
  have On1 := Lib.hid (alloc_new wa (.cells zSt 79))
  have hwa := hba.size
  have Hba := Lib.hid hba
  have Hown := Lib.hid hown
  clear hba hown
  go_wp2_with (first | (refine wpList_store_whole rfl 79 (.tmp 7) (.tmp 19) rfl wa.heap.size rfl 79 zSt cz rfl On1.out (by rw [hcz]; exact Try.sizeSt) (by rw [hcz]; rfl) Hown.out.c.one ?_; intro wb hobj hupd; have Hst := Lib.hid (StAt.stored Hown.out hobj hupd); have hwb := hupd.size; rw [World.size_alloc] at hwb; have Oeb := Lib.hid (hupd.obj (alloc_obj (x := .cells zSt 79) (below_obj Hba.out Oe1.out (by omega))) (by intro hq; change _ = _ at hq; omega)); have Ozb := Lib.hid (hupd.obj (alloc_obj (x := .cells zSt 79) (below_obj Hba.out Oz1.out (by omega))) (by intro hq; change _ = _ at hq; omega)); have Hbb := Lib.hid (Hb2.out.trans ((Hba.out.mono (by omega)).trans ((((Below.refl _ wa).alloc (Nat.le_refl _) _).mono (by omega)).trans (hupd.below (by simp; omega) (fun k hk hb => by change _ = _ at hb; omega))))); obtain ⟨a0, c0, h0, r0, f0⟩ := Hst.out.own.sz0; have k0 := (obj_cell Hst.out.obj 0).trans h0; have hc0 := r0.le; have hm0 := r0.max; unfold maxLen at hm0; have R0 := Lib.hid r0; have H0 := Lib.hid h0; obtain ⟨x0, x1, x2, x3, x4, x5⟩ := EvCells.layR (EvCells.of Oeb.out) H_hek.out H_hea.out H_heb.out rfl rfl rfl; clear hobj hupd h0 r0 f0))
  obtain ⟨ob, oo, rfl, hob, hoc⟩ := R0.out.sl.nonempty (by omega)
  obtain ⟨z, hz⟩ : ∃ z, z = (s.o.getD a []).getD b 0 := ⟨_, rfl⟩
  have kc := hoc (a * 18 + b) _ (objs_get s.o Ok.out.o a b hlen' hb)
  rw [← hz, ← Nat.add_assoc] at kc
  rw [← hz] at H_hr
  have Kc := Lib.hid kc
  have Hz := Lib.hid hz
  clear hz hoc
  by_cases hze : z = e.c
  rotate_left
  · have hzz : (z != e.c) = true := by simp [hze]
    have Hr2 := Lib.hid (show r = 20 by rw [H_hr.out, if_neg hze])
    clear hze
    go_wp2_with fail
    go_quiet (fail)
    have hq0 : Below wb.heap.size wb (wb.drewN nq) := (((Q.refl wb).drewN nq).below _)
    have Hstq := Lib.hid (Hst.out.all hq0)
    have Oeq := Lib.hid (below_obj hq0 Oeb.out (obj_lt Oeb.out))
    have Ozq := Lib.hid (below_obj hq0 Ozb.out (obj_lt Ozb.out))
    have Hbq := Lib.hid (Hbb.out.trans (hq0.mono Hbb.out.size))
    have hwq := hq0.size
    clear k0 x0 x1 x2 x3 x4 x5 kc
    have Rq := Lib.hid (R0.out.all hq0)
    clear hq0
    generalize wb.drewN nq = wq at *
    go_wp2_with (refine wpList_store_whole rfl 79 (.tmp 4) (.tmp 232) rfl (w.heap.size + 1 + 1) rfl 79 zSt zSt rfl Ozq.out Try.sizeSt rfl (zSt_O 0 w).c.one ?_; intro wz hobj hupdz)
    refine bodyPost_ret (results_cell_slot rfl _ wz (w.heap.size + 1 + 1) 79 zSt (0, 0) _ rfl hobj Try.underlying79 rfl Try.sizeSt) rfl ?_
    exact ⟨zSt, by rw [Hr2.out]; rfl, by rw [Hr2.out, if_neg (by decide)]; exact zSt_O _ _, (Hbq.out).trans (hupdz.below (by have := Hbb.out.size; have := (Hbq.out).size; omega) (fun k hk hb => by change _ = _ at hb; omega))⟩
  have hzz : (z != e.c) = false := by simp [hze]
  have Hr2 := Lib.hid (show r = 0 by rw [H_hr.out, if_pos hze])
  clear hze
  go_wp2_with fail
  go_quiet (fail)
  clear hzz
  have hq0 : Below wb.heap.size wb (wb.drewN nq) := (((Q.refl wb).drewN nq).below _)
  have Hstq := Lib.hid (Hst.out.all hq0)
  have Oeq := Lib.hid (below_obj hq0 Oeb.out (obj_lt Oeb.out))
  have Ozq := Lib.hid (below_obj hq0 Ozb.out (obj_lt Ozb.out))
  have Hbq := Lib.hid (Hbb.out.trans (hq0.mono Hbb.out.size))
  have hwq := hq0.size
  clear k0 x0 x1 x2 x3 x4 x5 kc
  have Rq := Lib.hid (R0.out.all hq0)
  clear hq0
  generalize wb.drewN nq = wq at *
  have kq : wq.cell? ⟨wa.heap.size, 0, none⟩ = some (.slice (some ⟨ob, oo, none⟩) s.o.length c0) := (obj_cell Hstq.out.obj 0).trans H0.out
  have HT := Lib.hid (And.intro (show wq.drew.cell? ⟨wa.heap.size, 0, none⟩ = some (.slice (some ⟨ob, oo, none⟩) s.o.length c0) from kq) (show wq.drew.cell? ⟨w.heap.size + 1, 0, none⟩ = _ ∧ wq.drew.cell? ⟨w.heap.size + 1, 1, none⟩ = _ ∧ wq.drew.cell? ⟨w.heap.size + 1, 2, none⟩ = _ ∧ wq.drew.cell? ⟨w.heap.size + 1, 3, none⟩ = _ ∧ wq.drew.cell? ⟨w.heap.size + 1, 4, none⟩ = _ ∧ wq.drew.cell? ⟨w.heap.size + 1, 5, none⟩ = _ from EvCells.layR (EvCells.of Oeq.out) H_hek.out H_hea.out H_heb.out rfl rfl rfl))
  clear kq
  obtain ⟨_, cur, hcur, _, _⟩ := Rq.out.row _ rfl
  have kf := obj_free hcur (oo + a * 18 + b)
  clear hcur
  obtain ⟨bb, oo2, hbeq, _, hoc⟩ := Rq.out.sl.nonempty (by omega)
  simp at hbeq
  obtain ⟨rfl, rfl⟩ := hbeq
  have kc := hoc (a * 18 + b) _ (objs_get s.o Ok.out.o a b hlen' hb)
  rw [← Hz.out, ← Nat.add_assoc] at kc
  clear hoc
  go_wp2_with fail
  refine wp_region_T 10 (fun x => x.cell? ⟨wa.heap.size, 0, none⟩ = some (.slice (some ⟨ob, oo, none⟩) s.o.length c0) ∧ x.cell? ⟨w.heap.size + 1, 0, none⟩ = some (.int .i64 2) ∧ x.cell? ⟨w.heap.size + 1, 1, none⟩ = some (.int .i64 (a : Int)) ∧ x.cell? ⟨w.heap.size + 1, 2, none⟩ = some (.int .i64 (b : Int)) ∧ x.cell? ⟨w.heap.size + 1, 3, none⟩ = some (.int .i64 e.c) ∧ x.cell? ⟨w.heap.size + 1, 4, none⟩ = some (.int .i64 e.d) ∧ x.cell? ⟨w.heap.size + 1, 5, none⟩ = some (.int .i64 e.e)) (by kernel_rfl) HT.out (fun hHeld => ?_)
  refine wpAnyT_takeU (i := 0) (oi := ⟨some 233, _, _, _, _, _⟩) (v := ?_) rfl (by kernel_rfl) (by kernel_rfl) (by kernel_rfl) (by kernel_rfl) (fun _ _ _ h => h) (Or.inl ⟨by rfl, ?_⟩) (fun _ => hHeld) ?_
  rotate_left
  · intro w' hS'
    (try dsimp only at hS')
    go_simp
    try with_reducible rfl
  try simp only [Act.put, List.setIfInBounds_toArray, List.set_cons_zero, List.set_cons_succ]
  refine wpAnyT_take (i := 1) (oi := ⟨some 234, _, _, _, _, _⟩) (v := ?_) rfl (by kernel_rfl) (by kernel_rfl) (by kernel_rfl) (by kernel_rfl) (fun _ _ _ h => h) (Or.inl ⟨by rfl, ?_⟩) hHeld ?_
  rotate_left
  · intro w' hS'
    (try dsimp only at hS')
    go_simp
    try with_reducible rfl
  try simp only [Act.put, List.setIfInBounds_toArray, List.set_cons_zero, List.set_cons_succ]
  refine wpAnyT_takeU (i := 2) (oi := ⟨some 235, _, _, _, _, _⟩) (v := ?_) rfl (by kernel_rfl) (by kernel_rfl) (by kernel_rfl) (by kernel_rfl) (fun _ _ _ h => h) (Or.inl ⟨by rfl, ?_⟩) (fun _ => hHeld) ?_
  rotate_left
  · intro w' hS'
    (try dsimp only at hS')
    go_simp
    try with_reducible rfl
  try simp only [Act.put, List.setIfInBounds_toArray, List.set_cons_zero, List.set_cons_succ]
  refine wpAnyT_take (i := 3) (oi := ⟨some 236, _, _, _, _, _⟩) (v := ?_) rfl (by kernel_rfl) (by kernel_rfl) (by kernel_rfl) (by kernel_rfl) (fun _ _ _ h => h) (Or.inl ⟨by rfl, ?_⟩) hHeld ?_
  rotate_left
  · intro w' hS'
    (try dsimp only at hS')
    go_simp
    try with_reducible rfl
  try simp only [Act.put, List.setIfInBounds_toArray, List.set_cons_zero, List.set_cons_succ]
  refine wpAnyT_takeU (i := 4) (oi := ⟨some 237, _, _, _, _, _⟩) (v := ?_) rfl (by kernel_rfl) (by kernel_rfl) (by kernel_rfl) (by kernel_rfl) (fun _ _ _ h => h) (Or.inl ⟨by rfl, ?_⟩) (fun _ => hHeld) ?_
  rotate_left
  · intro w' hS'
    (try dsimp only at hS')
    go_simp
    try with_reducible rfl
  try simp only [Act.put, List.setIfInBounds_toArray, List.set_cons_zero, List.set_cons_succ]
  refine wpAnyT_take (i := 5) (oi := ⟨some 238, _, _, _, _, _⟩) (v := ?_) rfl (by kernel_rfl) (by kernel_rfl) (by kernel_rfl) (by kernel_rfl) (fun _ _ _ h => h) (Or.inl ⟨by rfl, ?_⟩) hHeld ?_
  rotate_left
  · intro w' hS'
    (try dsimp only at hS')
    go_simp
    try with_reducible rfl
  try simp only [Act.put, List.setIfInBounds_toArray, List.set_cons_zero, List.set_cons_succ]
  refine wpAnyT_takeU (i := 6) (oi := ⟨some 239, _, _, _, _, _⟩) (v := ?_) rfl (by kernel_rfl) (by kernel_rfl) (by kernel_rfl) (by kernel_rfl) (fun _ _ _ h => h) (Or.inl ⟨by rfl, ?_⟩) (fun _ => hHeld) ?_
  rotate_left
  · intro w' hS'
    (try dsimp only at hS')
    go_simp
    try with_reducible rfl
  try simp only [Act.put, List.setIfInBounds_toArray, List.set_cons_zero, List.set_cons_succ]
  refine wpAnyT_take (i := 7) (oi := ⟨some 240, _, _, _, _, _⟩) (v := ?_) rfl (by kernel_rfl) (by kernel_rfl) (by kernel_rfl) (by kernel_rfl) (fun _ _ _ h => h) (Or.inl ⟨by rfl, ?_⟩) hHeld ?_
  rotate_left
  · intro w' hS'
    (try dsimp only at hS')
    go_simp
    try with_reducible rfl
  try simp only [Act.put, List.setIfInBounds_toArray, List.set_cons_zero, List.set_cons_succ]
  refine wpAnyT_takeU (i := 8) (oi := ⟨some 241, _, _, _, _, _⟩) (v := ?_) rfl (by kernel_rfl) (by kernel_rfl) (by kernel_rfl) (by kernel_rfl) (fun _ _ _ h => h) (Or.inl ⟨by rfl, ?_⟩) (fun _ => hHeld) ?_
  rotate_left
  · intro w' hS'
    (try dsimp only at hS')
    go_simp
    try with_reducible rfl
  try simp only [Act.put, List.setIfInBounds_toArray, List.set_cons_zero, List.set_cons_succ]
  refine wpAnyT_takeU (i := 9) (oi := ⟨some 242, _, _, _, _, _⟩) (v := ?_) rfl (by kernel_rfl) (by kernel_rfl) (by kernel_rfl) (by kernel_rfl) (fun _ _ _ h => h) (Or.inl ⟨by rfl, ?_⟩) (fun _ => hHeld) ?_
  rotate_left
  · intro w' hS'
    (try dsimp only at hS')
    go_simp
    try with_reducible rfl
  try simp only [Act.put, List.setIfInBounds_toArray, List.set_cons_zero, List.set_cons_succ]
  refine wpAnyT_all (rs := [10]) (by kernel_rfl) (by simp) ?_
  intro ix hix
  obtain rfl : ix = 10 := by simpa using hix
  clear hix
  refine wpOp_step (o := ⟨none, _, _, _, _, _⟩) rfl (fun K hK => ?_)
  have HK := Lib.hid hK
  clear hK
  go_simp
  go_wp2_with fail
  refine HK.out _ _ ⟨tl (by kernel_rfl), ?_⟩
  clear HK
  try clear hHeld
  try simp only [Act.put, List.setIfInBounds_toArray, List.set_cons_zero, List.set_cons_succ]
  refine wpAnyT_done (by kernel_rfl) ?_ _
  have hs4 := (Hstq.out.setObj Ok.out.o H0.out a b hlen' hb e.d)
  have hob2 := hs4.2
  have hst3 := hs4.1
  rw [← Nat.add_assoc, ← H_ht.out] at hst3
  have Hst3 := Lib.hid (hst3.all (w' := (wq.setCell ⟨ob, oo + a * 18 + b, none⟩ (.int .i64 e.d)).drew) ((Below.refl _ _).drew))
  have Oz3 := Lib.hid (show (wq.setCell ⟨ob, oo + a * 18 + b, none⟩ (.int .i64 e.d)).drew.heap[w.heap.size + 1 + 1]? = _ from setCell_obj (p := ⟨ob, oo + a * 18 + b, none⟩) Ozq.out (by show w.heap.size + 1 + 1 ≠ ob; omega))
  have Hb3 := Lib.hid (show Below w.heap.size w (wq.setCell ⟨ob, oo + a * 18 + b, none⟩ (.int .i64 e.d)).drew from (Hbq.out.setCell (p := ⟨ob, oo + a * 18 + b, none⟩) (by show w.heap.size ≤ ob; omega) _).drew)
  generalize (wq.setCell ⟨ob, oo + a * 18 + b, none⟩ (.int .i64 e.d)).drew = w3 at *
  clear hst3 hs4 kf kc
  have hcd := Hst3.out.own.size
  go_wp2_with (first | (refine wpList_load_whole rfl 79 (.tmp 7) rfl wa.heap.size rfl 79 _ (0, 0) Hst3.out.obj _ Try.underlying79 rfl (by rw [hcd]; exact Try.sizeSt) ?_) | (refine wpList_store_whole rfl 79 (.tmp 4) (.tmp 266) rfl (w.heap.size + 1 + 1) rfl 79 zSt _ rfl Oz3.out (by rw [hcd]; exact Try.sizeSt) (by rw [hcd]; rfl) Hst3.out.own.c.one ?_; intro wz hobj hupdz))
  refine bodyPost_ret (results_cell_slot rfl _ wz (w.heap.size + 1 + 1) 79 _ (0, 0) _ rfl hobj Try.underlying79 rfl (by rw [hcd]; exact Try.sizeSt)) rfl ?_
  exact ⟨_, by rw [Hr2.out]; rfl, by rw [Hr2.out, if_pos rfl]; exact (Hst3.out.own.upd hupdz (fun i a c hi he ad hd hb => by have h9 := Hst3.out.own.fresh i a c hi he ad hd; change _ = _ at hb; omega)).mono (by omega), (Hb3.out).trans (hupdz.below (by have := (Hb3.out).size; omega) (fun k hk hb => by change _ = _ at hb; omega))⟩
end Go.Proofs.Ytpbocficffbcbaa
