import Derived.Test.YtpbocficffbcbaaNumCopy
import Derived.Test.YtpbocficffbcbaaEv4
import Derived.Test.YtpbocficffbcbaaDoG
import Derived.Test.YtpbocficffbcbaaHeldT
import Derived.Test.YtpbocficffbcbaaRefP
import Derived.Test.YtpbocficffbcbaaRefM
namespace Go.Proofs.Ytpbocficffbcbaa
open Go Go.RowKit
set_option linter.unusedVariables false

theorem RowAt.takeC {w : World} {e : TypeId} {sz n cap : Nat} {a : Option Addr} {xs : List Value} (h : RowAt w e sz a n cap xs) (k : Nat) (hk : k ≤ n) : RowAt w e sz a k cap (xs.take (k * sz)) where
  len := by
    have := h.len
    rw [List.length_take, this]
    exact Nat.min_eq_left (Nat.mul_le_mul_right _ hk)
  le := Nat.le_trans hk h.le
  max := h.max
  nil := h.nil
  one := fun u hu => h.one u (List.mem_of_mem_take hu)
  row := fun ad he => by
    obtain ⟨hsp, cur, hg, hfit, ht⟩ := h.row ad he
    refine ⟨hsp, cur, hg, hfit, ?_⟩
    rw [← ht, List.take_take, Nat.min_eq_left (Nat.mul_le_mul_right _ hk)]

set_option maxRecDepth 100000 in
set_option maxHeartbeats 6400000 in
theorem refUnmake (w : World) (cs : Array Value) (s t : St) (h : StC w cs s) (ok : StOk s) (fits : Fits s 100000) (e : Ev) (hk : chk e = 0) (r : Int) (hek : e.k = 5) (hr : r = if rmB s e then 0 else 20) (ht : t = rmS s) :
    Calls Try.prog 58 #[.agg cs, evV e] w (RefTo w t r) := by
  have hsz : cs.size = 37 := h.size
  have b1 : Below w.heap.size w (((w.alloc (.cells cs 79)).alloc (.cells (evA e) 64)).alloc (.cells zSt 79)) := ((((Below.refl _ w).alloc (Nat.le_refl _) _).alloc (by simp) _).alloc (by simp; omega) _)
  have oc := alloc_obj (x := .cells zSt 79) (alloc_obj (x := .cells (evA e) 64) (alloc_new w (.cells cs 79)))
  have oe := alloc_obj (x := .cells zSt 79) (alloc_new (w.alloc (.cells cs 79)) (.cells (evA e) 64))
  have oz := alloc_new ((w.alloc (.cells cs 79)).alloc (.cells (evA e) 64)) (.cells zSt 79)
  simp only [World.size_alloc] at oe oz
  have Oc := Lib.hid oc
  have Oe := Lib.hid oe
  have Oz := Lib.hid oz
  have H1 := Lib.hid (h.all b1)
  have Hb1 := Lib.hid b1
  have Hk := Lib.hid hk
  have Ok := Lib.hid ok
  have Fi := Lib.hid fits
  have hfo := fits.o
  have H_hek := Lib.hid hek
  clear hek
  have H_hr := Lib.hid hr
  clear hr
  have H_ht := Lib.hid ht
  clear ht
  clear oc oe oz b1 h hk ok fits
  go_enter Try.func58, Try.ntmps58
  go_wp2_with fail
  refine (refCheck _ e).mono ?_
  rintro x w1 ⟨rfl, hb1⟩
  rw [Hk.out]
  have Oc1 := Lib.hid (below_obj hb1 Oc.out (by simp; omega))
  have Oe1 := Lib.hid (below_obj hb1 Oe.out (by simp))
  have Oz1 := Lib.hid (below_obj hb1 Oz.out (by simp))
  have H2 := Lib.hid (H1.out.all hb1)
  have Hb2 := Lib.hid (Hb1.out.trans (hb1.mono (by simp; omega)))
  have hw1 : w.heap.size + 3 ≤ w1.heap.size := by have := hb1.size; simp at this; omega
  clear hb1
  go_wp2_with (refine wpList_load_whole rfl 79 (.tmp 2) rfl w.heap.size rfl 79 cs (0, 0) Oc1.out _ Try.underlying79 rfl (by rw [hsz]; exact Try.sizeSt) ?_)
  refine (numCopy _ cs s H2.out (fun i hi => Fi.out.len i)).mono ?_
  rintro x wa ⟨cz, rfl, hown, hba⟩
  have hcz : cz.size = 37 := hown.size
  have On1 := Lib.hid (alloc_new wa (.cells zSt 79))
  have hwa := hba.size
  have Hba := Lib.hid hba
  have Hown := Lib.hid hown
  clear hba hown
  go_wp2_with (first | (refine wpList_store_whole rfl 79 (.tmp 7) (.tmp 19) rfl wa.heap.size rfl 79 zSt cz rfl On1.out (by rw [hcz]; exact Try.sizeSt) (by rw [hcz]; rfl) Hown.out.c.one ?_; intro wb hobj hupd; have Hst := Lib.hid (StAt.stored Hown.out hobj hupd); have hwb := hupd.size; rw [World.size_alloc] at hwb; have Oeb := Lib.hid (hupd.obj (alloc_obj (x := .cells zSt 79) (below_obj Hba.out Oe1.out (by omega))) (by intro hq; change _ = _ at hq; omega)); have Ozb := Lib.hid (hupd.obj (alloc_obj (x := .cells zSt 79) (below_obj Hba.out Oz1.out (by omega))) (by intro hq; change _ = _ at hq; omega)); have Hbb := Lib.hid (Hb2.out.trans ((Hba.out.mono (by omega)).trans ((((Below.refl _ wa).alloc (Nat.le_refl _) _).mono (by omega)).trans (hupd.below (by simp; omega) (fun k hk hb => by change _ = _ at hb; omega))))); obtain ⟨a0, c0, h0, r0, f0⟩ := Hst.out.own.sz0; have k0 := (obj_cell Hst.out.obj 0).trans h0; have hc0 := r0.le; have hm0 := r0.max; unfold maxLen at hm0; have R0 := Lib.hid r0; have H0 := Lib.hid h0; obtain ⟨x0, x1, x2, x3, x4, x5⟩ := EvCells.layR (EvCells.of Oeb.out) H_hek.out rfl rfl rfl rfl rfl; clear hobj hupd h0 r0 f0) | (refine wpList_store_whole rfl 108 (.tmp 10) (.tmp 76) rfl wb.heap.size rfl 108 zOA zOA rfl (alloc_new wb _) Try.sizeObj rfl zOA_one ?_; intro wc hobjc hupdc; have Hobjc := Lib.hid hobjc; have Hupdc := Lib.hid hupdc; clear hobjc hupdc x0 x1 x2 x3 x4 x5 k0))
  have hne : w.heap.size + 1 ≠ wb.heap.size := by omega
  have Oec := Lib.hid (Hupdc.out.obj (alloc_obj (x := (.cells #[.int .i64 0, .int .i64 0, .int .i64 0, .int .i64 0, .int .i64 0, .int .i64 0, .int .i64 0, .int .i64 0, .int .i64 0, .int .i64 0, .int .i64 0, .int .i64 0, .int .i64 0, .int .i64 0, .int .i64 0, .int .i64 0, .int .i64 0, .int .i64 0] 108)) Oeb.out) (by intro hq; change _ = _ at hq; omega))
  have Hbc : Hid (Below wb.heap.size wb wc) := Lib.hid (((Below.refl _ wb).alloc (Nat.le_refl _) _).trans (Hupdc.out.below (by simp) (fun k hk hb => by change _ = _ at hb; omega)))
  have hz0 := EvCells.layR (EvCells.of Oec.out) H_hek.out rfl rfl rfl rfl rfl
  refine wp_region_held_drew (S := fun x => x.cell? ⟨w.heap.size + 1, 0, none⟩ = some (.int .i64 5) ∧ x.cell? ⟨w.heap.size + 1, 1, none⟩ = some (.int .i64 e.a) ∧ x.cell? ⟨w.heap.size + 1, 2, none⟩ = some (.int .i64 e.b) ∧ x.cell? ⟨w.heap.size + 1, 3, none⟩ = some (.int .i64 e.c) ∧ x.cell? ⟨w.heap.size + 1, 4, none⟩ = some (.int .i64 e.d) ∧ x.cell? ⟨w.heap.size + 1, 5, none⟩ = some (.int .i64 e.e)) (by kernel_rfl) (show wc.drew.cell? ⟨w.heap.size + 1, 0, none⟩ = some (.int .i64 5) ∧ wc.drew.cell? ⟨w.heap.size + 1, 1, none⟩ = some (.int .i64 e.a) ∧ wc.drew.cell? ⟨w.heap.size + 1, 2, none⟩ = some (.int .i64 e.b) ∧ wc.drew.cell? ⟨w.heap.size + 1, 3, none⟩ = some (.int .i64 e.c) ∧ wc.drew.cell? ⟨w.heap.size + 1, 4, none⟩ = some (.int .i64 e.d) ∧ wc.drew.cell? ⟨w.heap.size + 1, 5, none⟩ = some (.int .i64 e.e) from hz0) (fun hHeld => ?_)
  have hz : wc.drew.cell? ⟨w.heap.size + 1, 0, none⟩ = some (.int .i64 5) ∧ wc.drew.cell? ⟨w.heap.size + 1, 1, none⟩ = some (.int .i64 e.a) ∧ wc.drew.cell? ⟨w.heap.size + 1, 2, none⟩ = some (.int .i64 e.b) ∧ wc.drew.cell? ⟨w.heap.size + 1, 3, none⟩ = some (.int .i64 e.c) ∧ wc.drew.cell? ⟨w.heap.size + 1, 4, none⟩ = some (.int .i64 e.d) ∧ wc.drew.cell? ⟨w.heap.size + 1, 5, none⟩ = some (.int .i64 e.e) := hHeld
  clear hHeld
  have Hob0 : Hid (wc.drew.heap[wb.heap.size]? = some (.cells zOA 108 (0, 0))) := Lib.hid Hobjc.out
  have Hbw0 := Lib.hid (Hbc.out.drew)
  generalize wc.drew = v0 at *
  have hHeld := hz
  refine wpAnyH_take (i := 0) (oi := ⟨some 77, _, _, _, _, _⟩) (v := ?_) rfl (by kernel_rfl) (by kernel_rfl) (by kernel_rfl) (fun _ _ _ h => h) (Or.inl ⟨by rfl, ?_⟩) hHeld ?_
  rotate_left
  · intro w' hS'
    (try dsimp only at hS')
    go_simp
    try with_reducible rfl
  try simp only [Act.put, List.setIfInBounds_toArray, List.set_cons_zero, List.set_cons_succ]
  refine wpAnyH_take (i := 1) (oi := ⟨some 78, _, _, _, _, _⟩) (v := ?_) rfl (by kernel_rfl) (by kernel_rfl) (by kernel_rfl) (fun _ _ _ h => h) (Or.inl ⟨by rfl, ?_⟩) hHeld ?_
  rotate_left
  · intro w' hS'
    (try dsimp only at hS')
    go_simp
    try with_reducible rfl
  try simp only [Act.put, List.setIfInBounds_toArray, List.set_cons_zero, List.set_cons_succ]
  refine wpAnyH_take (i := 2) (oi := ⟨some 79, _, _, _, _, _⟩) (v := ?_) rfl (by kernel_rfl) (by kernel_rfl) (by kernel_rfl) (fun _ _ _ h => h) (Or.inl ⟨by rfl, ?_⟩) hHeld ?_
  rotate_left
  · intro w' hS'
    (try dsimp only at hS')
    go_simp
    try with_reducible rfl
  try simp only [Act.put, List.setIfInBounds_toArray, List.set_cons_zero, List.set_cons_succ]
  refine wpAnyH_take (i := 3) (oi := ⟨some 80, _, _, _, _, _⟩) (v := ?_) rfl (by kernel_rfl) (by kernel_rfl) (by kernel_rfl) (fun _ _ _ h => h) (Or.inl ⟨by rfl, ?_⟩) hHeld ?_
  rotate_left
  · intro w' hS'
    (try dsimp only at hS')
    go_simp
    try with_reducible rfl
  try simp only [Act.put, List.setIfInBounds_toArray, List.set_cons_zero, List.set_cons_succ]
  refine wpAnyH_take (i := 4) (oi := ⟨some 81, _, _, _, _, _⟩) (v := ?_) rfl (by kernel_rfl) (by kernel_rfl) (by kernel_rfl) (fun _ _ _ h => h) (Or.inl ⟨by rfl, ?_⟩) hHeld ?_
  rotate_left
  · intro w' hS'
    (try dsimp only at hS')
    go_simp
    try with_reducible rfl
  try simp only [Act.put, List.setIfInBounds_toArray, List.set_cons_zero, List.set_cons_succ]
  refine wpAnyH_take (i := 5) (oi := ⟨some 82, _, _, _, _, _⟩) (v := ?_) rfl (by kernel_rfl) (by kernel_rfl) (by kernel_rfl) (fun _ _ _ h => h) (Or.inl ⟨by rfl, ?_⟩) hHeld ?_
  rotate_left
  · intro w' hS'
    (try dsimp only at hS')
    go_simp
    try with_reducible rfl
  try simp only [Act.put, List.setIfInBounds_toArray, List.set_cons_zero, List.set_cons_succ]
  refine wpAnyH_take (i := 6) (oi := ⟨some 83, _, _, _, _, _⟩) (v := ?_) rfl (by kernel_rfl) (by kernel_rfl) (by kernel_rfl) (fun _ _ _ h => h) (Or.inl ⟨by rfl, ?_⟩) hHeld ?_
  rotate_left
  · intro w' hS'
    (try dsimp only at hS')
    go_simp
    try with_reducible rfl
  try simp only [Act.put, List.setIfInBounds_toArray, List.set_cons_zero, List.set_cons_succ]
  refine wpAnyH_take (i := 7) (oi := ⟨some 84, _, _, _, _, _⟩) (v := ?_) rfl (by kernel_rfl) (by kernel_rfl) (by kernel_rfl) (fun _ _ _ h => h) (Or.inl ⟨by rfl, ?_⟩) hHeld ?_
  rotate_left
  · intro w' hS'
    (try dsimp only at hS')
    go_simp
    try with_reducible rfl
  try simp only [Act.put, List.setIfInBounds_toArray, List.set_cons_zero, List.set_cons_succ]
  refine wpAnyH_take (i := 8) (oi := ⟨some 85, _, _, _, _, _⟩) (v := ?_) rfl (by kernel_rfl) (by kernel_rfl) (by kernel_rfl) (fun _ _ _ h => h) (Or.inl ⟨by rfl, ?_⟩) hHeld ?_
  rotate_left
  · intro w' hS'
    (try dsimp only at hS')
    go_simp
    try with_reducible rfl
  try simp only [Act.put, List.setIfInBounds_toArray, List.set_cons_zero, List.set_cons_succ]
  refine wpAnyH_all (rs := [9]) (by kernel_rfl) (by simp) ?_
  intro ix hix
  obtain rfl : ix = 9 := by simpa using hix
  clear hix
  refine wpOp_step (o := ⟨none, _, _, _, _, _⟩) rfl (fun K hK => ?_)
  have HK := Lib.hid hK
  clear hK
  have kf := obj_free Hob0.out 0
  have kc : v0.cell? ⟨wb.heap.size, 0, none⟩ = some (.int .i64 0) := (obj_cell Hob0.out 0).trans rfl
  go_simp
  go_wp2_with fail
  refine HK.out _ _ ⟨(six_set hz (p := ⟨wb.heap.size, 0, none⟩) hne (.int .i64 (e.a))), ?_⟩
  clear HK
  try clear hHeld
  have hHeld := (six_set hz (p := ⟨wb.heap.size, 0, none⟩) hne (.int .i64 (e.a)))
  try simp only [Act.put, List.setIfInBounds_toArray, List.set_cons_zero, List.set_cons_succ]
  have Hob1 := Lib.hid (obj_set Hob0.out 0 (.int .i64 (e.a)))
  have Hbw1 := Lib.hid (Hbw0.out.setCell (p := ⟨wb.heap.size, 0, none⟩) (Nat.le_refl _) (.int .i64 (e.a)))
  clear hz kf kc
  have hz := hHeld
  clear hHeld
  generalize v0.setCell ⟨wb.heap.size, 0, none⟩ (.int .i64 (e.a)) = v1 at *
  have hHeld := hz
  refine wpAnyH_take (i := 10) (oi := ⟨some 86, _, _, _, _, _⟩) (v := ?_) rfl (by kernel_rfl) (by kernel_rfl) (by kernel_rfl) (fun _ _ _ h => h) (Or.inl ⟨by rfl, ?_⟩) hHeld ?_
  rotate_left
  · intro w' hS'
    (try dsimp only at hS')
    go_simp
    try with_reducible rfl
  try simp only [Act.put, List.setIfInBounds_toArray, List.set_cons_zero, List.set_cons_succ]
  refine wpAnyH_all (rs := [11]) (by kernel_rfl) (by simp) ?_
  intro ix hix
  obtain rfl : ix = 11 := by simpa using hix
  clear hix
  refine wpOp_step (o := ⟨none, _, _, _, _, _⟩) rfl (fun K hK => ?_)
  have HK := Lib.hid hK
  clear hK
  have kf := obj_free Hob1.out 1
  have kc : v1.cell? ⟨wb.heap.size, 1, none⟩ = some (.int .i64 0) := (obj_cell Hob1.out 1).trans rfl
  go_simp
  go_wp2_with fail
  refine HK.out _ _ ⟨(six_set hz (p := ⟨wb.heap.size, 1, none⟩) hne (.int .i64 (e.b))), ?_⟩
  clear HK
  try clear hHeld
  have hHeld := (six_set hz (p := ⟨wb.heap.size, 1, none⟩) hne (.int .i64 (e.b)))
  try simp only [Act.put, List.setIfInBounds_toArray, List.set_cons_zero, List.set_cons_succ]
  have Hob2 := Lib.hid (obj_set Hob1.out 1 (.int .i64 (e.b)))
  have Hbw2 := Lib.hid (Hbw1.out.setCell (p := ⟨wb.heap.size, 1, none⟩) (Nat.le_refl _) (.int .i64 (e.b)))
  clear hz kf kc
  have hz := hHeld
  clear hHeld
  generalize v1.setCell ⟨wb.heap.size, 1, none⟩ (.int .i64 (e.b)) = v2 at *
  have hHeld := hz
  refine wpAnyH_take (i := 12) (oi := ⟨some 87, _, _, _, _, _⟩) (v := ?_) rfl (by kernel_rfl) (by kernel_rfl) (by kernel_rfl) (fun _ _ _ h => h) (Or.inl ⟨by rfl, ?_⟩) hHeld ?_
  rotate_left
  · intro w' hS'
    (try dsimp only at hS')
    go_simp
    try with_reducible rfl
  try simp only [Act.put, List.setIfInBounds_toArray, List.set_cons_zero, List.set_cons_succ]
  refine wpAnyH_all (rs := [13]) (by kernel_rfl) (by simp) ?_
  intro ix hix
  obtain rfl : ix = 13 := by simpa using hix
  clear hix
  refine wpOp_step (o := ⟨none, _, _, _, _, _⟩) rfl (fun K hK => ?_)
  have HK := Lib.hid hK
  clear hK
  have kf := obj_free Hob2.out 2
  have kc : v2.cell? ⟨wb.heap.size, 2, none⟩ = some (.int .i64 0) := (obj_cell Hob2.out 2).trans rfl
  go_simp
  go_wp2_with fail
  refine HK.out _ _ ⟨(six_set hz (p := ⟨wb.heap.size, 2, none⟩) hne (.int .i64 (e.b))), ?_⟩
  clear HK
  try clear hHeld
  have hHeld := (six_set hz (p := ⟨wb.heap.size, 2, none⟩) hne (.int .i64 (e.b)))
  try simp only [Act.put, List.setIfInBounds_toArray, List.set_cons_zero, List.set_cons_succ]
  have Hob3 := Lib.hid (obj_set Hob2.out 2 (.int .i64 (e.b)))
  have Hbw3 := Lib.hid (Hbw2.out.setCell (p := ⟨wb.heap.size, 2, none⟩) (Nat.le_refl _) (.int .i64 (e.b)))
  clear hz kf kc
  have hz := hHeld
  clear hHeld
  generalize v2.setCell ⟨wb.heap.size, 2, none⟩ (.int .i64 (e.b)) = v3 at *
  have hHeld := hz
  refine wpAnyH_take (i := 14) (oi := ⟨some 88, _, _, _, _, _⟩) (v := ?_) rfl (by kernel_rfl) (by kernel_rfl) (by kernel_rfl) (fun _ _ _ h => h) (Or.inl ⟨by rfl, ?_⟩) hHeld ?_
  rotate_left
  · intro w' hS'
    (try dsimp only at hS')
    go_simp
    try with_reducible rfl
  try simp only [Act.put, List.setIfInBounds_toArray, List.set_cons_zero, List.set_cons_succ]
  refine wpAnyH_all (rs := [15]) (by kernel_rfl) (by simp) ?_
  intro ix hix
  obtain rfl : ix = 15 := by simpa using hix
  clear hix
  refine wpOp_step (o := ⟨none, _, _, _, _, _⟩) rfl (fun K hK => ?_)
  have HK := Lib.hid hK
  clear hK
  have kf := obj_free Hob3.out 3
  have kc : v3.cell? ⟨wb.heap.size, 3, none⟩ = some (.int .i64 0) := (obj_cell Hob3.out 3).trans rfl
  go_simp
  go_wp2_with fail
  refine HK.out _ _ ⟨(six_set hz (p := ⟨wb.heap.size, 3, none⟩) hne (.int .i64 (10))), ?_⟩
  clear HK
  try clear hHeld
  have hHeld := (six_set hz (p := ⟨wb.heap.size, 3, none⟩) hne (.int .i64 (10)))
  try simp only [Act.put, List.setIfInBounds_toArray, List.set_cons_zero, List.set_cons_succ]
  have Hob4 := Lib.hid (obj_set Hob3.out 3 (.int .i64 (10)))
  have Hbw4 := Lib.hid (Hbw3.out.setCell (p := ⟨wb.heap.size, 3, none⟩) (Nat.le_refl _) (.int .i64 (10)))
  clear hz kf kc
  have hz := hHeld
  clear hHeld
  generalize v3.setCell ⟨wb.heap.size, 3, none⟩ (.int .i64 (10)) = v4 at *
  have hHeld := hz
  refine wpAnyH_take (i := 16) (oi := ⟨some 89, _, _, _, _, _⟩) (v := ?_) rfl (by kernel_rfl) (by kernel_rfl) (by kernel_rfl) (fun _ _ _ h => h) (Or.inl ⟨by rfl, ?_⟩) hHeld ?_
  rotate_left
  · intro w' hS'
    (try dsimp only at hS')
    go_simp
    try with_reducible rfl
  try simp only [Act.put, List.setIfInBounds_toArray, List.set_cons_zero, List.set_cons_succ]
  refine wpAnyH_all (rs := [17]) (by kernel_rfl) (by simp) ?_
  intro ix hix
  obtain rfl : ix = 17 := by simpa using hix
  clear hix
  refine wpOp_step (o := ⟨none, _, _, _, _, _⟩) rfl (fun K hK => ?_)
  have HK := Lib.hid hK
  clear hK
  have kf := obj_free Hob4.out 13
  have kc : v4.cell? ⟨wb.heap.size, 13, none⟩ = some (.int .i64 0) := (obj_cell Hob4.out 13).trans rfl
  go_simp
  go_wp2_with fail
  refine HK.out _ _ ⟨(six_set hz (p := ⟨wb.heap.size, 13, none⟩) hne (.int .i64 (e.c))), ?_⟩
  clear HK
  try clear hHeld
  have hHeld := (six_set hz (p := ⟨wb.heap.size, 13, none⟩) hne (.int .i64 (e.c)))
  try simp only [Act.put, List.setIfInBounds_toArray, List.set_cons_zero, List.set_cons_succ]
  have Hob5 := Lib.hid (obj_set Hob4.out 13 (.int .i64 (e.c)))
  have Hbw5 := Lib.hid (Hbw4.out.setCell (p := ⟨wb.heap.size, 13, none⟩) (Nat.le_refl _) (.int .i64 (e.c)))
  clear hz kf kc
  have hz := hHeld
  clear hHeld
  generalize v4.setCell ⟨wb.heap.size, 13, none⟩ (.int .i64 (e.c)) = v5 at *
  have hHeld := hz
  refine wpAnyH_take (i := 18) (oi := ⟨some 90, _, _, _, _, _⟩) (v := ?_) rfl (by kernel_rfl) (by kernel_rfl) (by kernel_rfl) (fun _ _ _ h => h) (Or.inl ⟨by rfl, ?_⟩) hHeld ?_
  rotate_left
  · intro w' hS'
    (try dsimp only at hS')
    go_simp
    try with_reducible rfl
  try simp only [Act.put, List.setIfInBounds_toArray, List.set_cons_zero, List.set_cons_succ]
  refine wpAnyH_all (rs := [19]) (by kernel_rfl) (by simp) ?_
  intro ix hix
  obtain rfl : ix = 19 := by simpa using hix
  clear hix
  refine wpOp_step (o := ⟨none, _, _, _, _, _⟩) rfl (fun K hK => ?_)
  have HK := Lib.hid hK
  clear hK
  have kf := obj_free Hob5.out 17
  have kc : v5.cell? ⟨wb.heap.size, 17, none⟩ = some (.int .i64 0) := (obj_cell Hob5.out 17).trans rfl
  go_simp
  go_wp2_with fail
  refine HK.out _ _ ⟨(six_set hz (p := ⟨wb.heap.size, 17, none⟩) hne (.int .i64 (3))), ?_⟩
  clear HK
  try clear hHeld
  have hHeld := (six_set hz (p := ⟨wb.heap.size, 17, none⟩) hne (.int .i64 (3)))
  try simp only [Act.put, List.setIfInBounds_toArray, List.set_cons_zero, List.set_cons_succ]
  have Hob6 := Lib.hid (obj_set Hob5.out 17 (.int .i64 (3)))
  have Hbw6 := Lib.hid (Hbw5.out.setCell (p := ⟨wb.heap.size, 17, none⟩) (Nat.le_refl _) (.int .i64 (3)))
  clear hz kf kc
  have hz := hHeld
  clear hHeld
  generalize v5.setCell ⟨wb.heap.size, 17, none⟩ (.int .i64 (3)) = v6 at *
  have hHeld := hz
  refine wpAnyH_done (by kernel_rfl) ?_ _
  clear hz hHeld hz0
  have Hbw := Lib.hid Hbw6.out
  have Ond : Hid (v6.heap[wb.heap.size]? = some (.cells (madeA e) 108 (0, 0))) := Lib.hid Hob6.out
  generalize v6 = wd at *
  have Hd := Lib.hid (Hst.out.all Hbw.out)
  have Rd := Lib.hid (R0.out.all Hbw.out)
  have Ozd := Lib.hid (below_obj Hbw.out Ozb.out (obj_lt Ozb.out))
  have hbws := Hbw.out.size
  have Hbd := Lib.hid (Hbb.out.trans (Hbw.out.mono Hbb.out.size))
  have Fd := Lib.hid (Hd.out.own.fresh 0 _ _ (by decide) H0.out)
  obtain ⟨a1, c1, h11, r11, f11⟩ := Hd.out.own.szl 10 (by decide)
  have H11x : Hid (cz[11]? = some (.slice a1 (lenOf s 11) c1)) := Lib.hid h11
  have hml := Fi.out.l 10
  obtain ⟨l, hl⟩ : ∃ l, l = s.l.getD 10 [] := ⟨_, rfl⟩
  rw [← hl] at h11 r11 hml
  obtain ⟨m, hm⟩ : ∃ m, m = l.length := ⟨_, rfl⟩
  rw [← hm] at h11 r11 hml
  have Hl := Lib.hid hl
  have Hm := Lib.hid hm
  clear hl hm
  have H11 : Hid (cz[11]? = some (.slice a1 m c1)) := Lib.hid h11
  have R11 := Lib.hid r11
  have F11 := Lib.hid f11
  have hc11 := r11.le
  have hm11 := r11.max
  unfold maxLen at hm11
  clear h11 r11 f11
  have k0 := (obj_cell Hd.out.obj 0).trans H0.out
  generalize m = m0 at *
  generalize hn : s.o.length = n at *
  have Hn := Lib.hid hn
  clear hn
  have hlst : lst s 10 = l := Hl.out.symm
  have Hlst := Lib.hid hlst
  clear hlst
  have k11 : wd.cell? ⟨wa.heap.size, 11, none⟩ = some (.slice a1 m0 c1) := (obj_cell Hd.out.obj 11).trans H11.out
  have Rl := Lib.hid R11.out
  have K0 := Lib.hid k0
  have K11 := Lib.hid k11
  have hrm : rmB s e = (decide (0 < n) && (decide (0 < m0) && (decide (l.getD (m0 - 1) 0 = (n : Int) - 1) && decide (s.o.getD (n - 1) [] = madeL e)))) := by simp only [rmB, Hn.out, Hlst.out, ← Hm.out]
  have Hrm := Lib.hid hrm
  clear hrm
  go_wp2_with fail
  clear k0 k11
  rcases Nat.eq_zero_or_pos n with h0n | h0n
  · subst h0n
    have Hr2 := Lib.hid (show r = 20 by rw [H_hr.out, Hrm.out]; rfl)
    have HT := Lib.hid (show wd.drew.cell? ⟨wa.heap.size, 0, none⟩ = _ ∧ wd.drew.cell? ⟨wa.heap.size, 11, none⟩ = _ from ⟨K0.out, K11.out⟩)
    refine wp_region_held_drew (S := fun x => x.cell? ⟨wa.heap.size, 0, none⟩ = some (.slice a0 0 c0) ∧ x.cell? ⟨wa.heap.size, 11, none⟩ = some (.slice a1 m0 c1)) (by kernel_rfl) HT.out (fun hHeld => ?_)
    refine wpAnyH_take (i := 0) (oi := ⟨some 95, _, _, _, _, _⟩) (v := ?_) rfl (by kernel_rfl) (by kernel_rfl) (by kernel_rfl) (fun _ _ _ h => h) (Or.inl ⟨by rfl, ?_⟩) hHeld ?_
    rotate_left
    · intro w' hS'
      (try dsimp only at hS')
      go_simp
      try with_reducible rfl
    try simp only [Act.put, List.setIfInBounds_toArray, List.set_cons_zero, List.set_cons_succ]
    refine wpAnyH_take (i := 1) (oi := ⟨some 96, _, _, _, _, _⟩) (v := ?_) rfl (by kernel_rfl) (by kernel_rfl) (by kernel_rfl) (fun _ _ _ h => h) (Or.inl ⟨by rfl, ?_⟩) hHeld ?_
    rotate_left
    · intro w' hS'
      (try dsimp only at hS')
      go_simp
      try with_reducible rfl
    try simp only [Act.put, List.setIfInBounds_toArray, List.set_cons_zero, List.set_cons_succ]
    refine wpAnyH_take (i := 2) (oi := ⟨some 97, _, _, _, _, _⟩) (v := ?_) rfl (by kernel_rfl) (by kernel_rfl) (by kernel_rfl) (fun _ _ _ h => h) (Or.inl ⟨by rfl, ?_⟩) hHeld ?_
    rotate_left
    · intro w' hS'
      (try dsimp only at hS')
      go_simp
      try with_reducible rfl
    try simp only [Act.put, List.setIfInBounds_toArray, List.set_cons_zero, List.set_cons_succ]
    refine wpAnyH_take (i := 3) (oi := ⟨some 98, _, _, _, _, _⟩) (v := undef) rfl (by kernel_rfl) (by kernel_rfl) (by kernel_rfl) (fun _ _ _ h => h) (Or.inr ⟨by rfl, rfl⟩) hHeld ?_
    try simp only [Act.put, List.setIfInBounds_toArray, List.set_cons_zero, List.set_cons_succ]
    refine wpAnyH_take (i := 4) (oi := ⟨some 99, _, _, _, _, _⟩) (v := undef) rfl (by kernel_rfl) (by kernel_rfl) (by kernel_rfl) (fun _ _ _ h => h) (Or.inr ⟨by rfl, rfl⟩) hHeld ?_
    try simp only [Act.put, List.setIfInBounds_toArray, List.set_cons_zero, List.set_cons_succ]
    refine wpAnyH_take (i := 5) (oi := ⟨some 100, _, _, _, _, _⟩) (v := ?_) rfl (by kernel_rfl) (by kernel_rfl) (by kernel_rfl) (fun _ _ _ h => h) (Or.inl ⟨by rfl, ?_⟩) hHeld ?_
    rotate_left
    · intro w' hS'
      (try dsimp only at hS')
      go_simp
      try with_reducible rfl
    try simp only [Act.put, List.setIfInBounds_toArray, List.set_cons_zero, List.set_cons_succ]
    refine wpAnyH_take (i := 6) (oi := ⟨some 101, _, _, _, _, _⟩) (v := ?_) rfl (by kernel_rfl) (by kernel_rfl) (by kernel_rfl) (fun _ _ _ h => h) (Or.inl ⟨by rfl, ?_⟩) hHeld ?_
    rotate_left
    · intro w' hS'
      (try dsimp only at hS')
      go_simp
      try with_reducible rfl
    try simp only [Act.put, List.setIfInBounds_toArray, List.set_cons_zero, List.set_cons_succ]
    refine wpAnyH_take (i := 7) (oi := ⟨some 102, _, _, _, _, _⟩) (v := undef) rfl (by kernel_rfl) (by kernel_rfl) (by kernel_rfl) (fun _ _ _ h => h) (Or.inr ⟨by rfl, rfl⟩) hHeld ?_
    try simp only [Act.put, List.setIfInBounds_toArray, List.set_cons_zero, List.set_cons_succ]
    refine wpAnyH_take (i := 8) (oi := ⟨some 103, _, _, _, _, _⟩) (v := undef) rfl (by kernel_rfl) (by kernel_rfl) (by kernel_rfl) (fun _ _ _ h => h) (Or.inr ⟨by rfl, rfl⟩) hHeld ?_
    try simp only [Act.put, List.setIfInBounds_toArray, List.set_cons_zero, List.set_cons_succ]
    refine wpAnyH_take (i := 9) (oi := ⟨some 104, _, _, _, _, _⟩) (v := undef) rfl (by kernel_rfl) (by kernel_rfl) (by kernel_rfl) (fun _ _ _ h => h) (Or.inr ⟨by rfl, rfl⟩) hHeld ?_
    try simp only [Act.put, List.setIfInBounds_toArray, List.set_cons_zero, List.set_cons_succ]
    refine wpAnyH_take (i := 10) (oi := ⟨some 105, _, _, _, _, _⟩) (v := undef) rfl (by kernel_rfl) (by kernel_rfl) (by kernel_rfl) (fun _ _ _ h => h) (Or.inr ⟨by rfl, rfl⟩) hHeld ?_
    try simp only [Act.put, List.setIfInBounds_toArray, List.set_cons_zero, List.set_cons_succ]
    refine wpAnyH_take (i := 11) (oi := ⟨some 106, _, _, _, _, _⟩) (v := undef) rfl (by kernel_rfl) (by kernel_rfl) (by kernel_rfl) (fun _ _ _ h => h) (Or.inr ⟨by rfl, rfl⟩) hHeld ?_
    try simp only [Act.put, List.setIfInBounds_toArray, List.set_cons_zero, List.set_cons_succ]
    refine wpAnyH_take (i := 12) (oi := ⟨some 107, _, _, _, _, _⟩) (v := undef) rfl (by kernel_rfl) (by kernel_rfl) (by kernel_rfl) (fun _ _ _ h => h) (Or.inr ⟨by rfl, rfl⟩) hHeld ?_
    try simp only [Act.put, List.setIfInBounds_toArray, List.set_cons_zero, List.set_cons_succ]
    refine wpAnyH_take (i := 13) (oi := ⟨some 108, _, _, _, _, _⟩) (v := undef) rfl (by kernel_rfl) (by kernel_rfl) (by kernel_rfl) (fun _ _ _ h => h) (Or.inr ⟨by rfl, rfl⟩) hHeld ?_
    try simp only [Act.put, List.setIfInBounds_toArray, List.set_cons_zero, List.set_cons_succ]
    refine wpAnyH_take (i := 14) (oi := ⟨some 109, _, _, _, _, _⟩) (v := undef) rfl (by kernel_rfl) (by kernel_rfl) (by kernel_rfl) (fun _ _ _ h => h) (Or.inr ⟨by rfl, rfl⟩) hHeld ?_
    try simp only [Act.put, List.setIfInBounds_toArray, List.set_cons_zero, List.set_cons_succ]
    refine wpAnyH_take (i := 15) (oi := ⟨some 110, _, _, _, _, _⟩) (v := undef) rfl (by kernel_rfl) (by kernel_rfl) (by kernel_rfl) (fun _ _ _ h => h) (Or.inr ⟨by rfl, rfl⟩) hHeld ?_
    try simp only [Act.put, List.setIfInBounds_toArray, List.set_cons_zero, List.set_cons_succ]
    refine wpAnyH_take (i := 16) (oi := ⟨some 111, _, _, _, _, _⟩) (v := undef) rfl (by kernel_rfl) (by kernel_rfl) (by kernel_rfl) (fun _ _ _ h => h) (Or.inr ⟨by rfl, rfl⟩) hHeld ?_
    try simp only [Act.put, List.setIfInBounds_toArray, List.set_cons_zero, List.set_cons_succ]
    refine wpAnyH_take (i := 17) (oi := ⟨some 112, _, _, _, _, _⟩) (v := ?_) rfl (by kernel_rfl) (by kernel_rfl) (by kernel_rfl) (fun _ _ _ h => h) (Or.inl ⟨by rfl, ?_⟩) hHeld ?_
    rotate_left
    · intro w' hS'
      (try dsimp only at hS')
      go_simp
      try with_reducible rfl
    try simp only [Act.put, List.setIfInBounds_toArray, List.set_cons_zero, List.set_cons_succ]
    refine wpAnyH_take (i := 18) (oi := ⟨some 113, _, _, _, _, _⟩) (v := ?_) rfl (by kernel_rfl) (by kernel_rfl) (by kernel_rfl) (fun _ _ _ h => h) (Or.inl ⟨by rfl, ?_⟩) hHeld ?_
    rotate_left
    · intro w' hS'
      (try dsimp only at hS')
      go_simp
      try with_reducible rfl
    try simp only [Act.put, List.setIfInBounds_toArray, List.set_cons_zero, List.set_cons_succ]
    refine wpAnyH_take (i := 19) (oi := ⟨some 114, _, _, _, _, _⟩) (v := undef) rfl (by kernel_rfl) (by kernel_rfl) (by kernel_rfl) (fun _ _ _ h => h) (Or.inr ⟨by rfl, rfl⟩) hHeld ?_
    try simp only [Act.put, List.setIfInBounds_toArray, List.set_cons_zero, List.set_cons_succ]
    refine wpAnyH_take (i := 20) (oi := ⟨some 115, _, _, _, _, _⟩) (v := undef) rfl (by kernel_rfl) (by kernel_rfl) (by kernel_rfl) (fun _ _ _ h => h) (Or.inr ⟨by rfl, rfl⟩) hHeld ?_
    try simp only [Act.put, List.setIfInBounds_toArray, List.set_cons_zero, List.set_cons_succ]
    refine wpAnyH_take (i := 21) (oi := ⟨some 116, _, _, _, _, _⟩) (v := undef) rfl (by kernel_rfl) (by kernel_rfl) (by kernel_rfl) (fun _ _ _ h => h) (Or.inr ⟨by rfl, rfl⟩) hHeld ?_
    try simp only [Act.put, List.setIfInBounds_toArray, List.set_cons_zero, List.set_cons_succ]
    refine wpAnyH_take (i := 22) (oi := ⟨some 117, _, _, _, _, _⟩) (v := undef) rfl (by kernel_rfl) (by kernel_rfl) (by kernel_rfl) (fun _ _ _ h => h) (Or.inr ⟨by rfl, rfl⟩) hHeld ?_
    try simp only [Act.put, List.setIfInBounds_toArray, List.set_cons_zero, List.set_cons_succ]
    refine wpAnyH_take (i := 23) (oi := ⟨some 118, _, _, _, _, _⟩) (v := undef) rfl (by kernel_rfl) (by kernel_rfl) (by kernel_rfl) (fun _ _ _ h => h) (Or.inr ⟨by rfl, rfl⟩) hHeld ?_
    try simp only [Act.put, List.setIfInBounds_toArray, List.set_cons_zero, List.set_cons_succ]
    refine wpAnyH_take (i := 24) (oi := ⟨some 119, _, _, _, _, _⟩) (v := undef) rfl (by kernel_rfl) (by kernel_rfl) (by kernel_rfl) (fun _ _ _ h => h) (Or.inr ⟨by rfl, rfl⟩) hHeld ?_
    try simp only [Act.put, List.setIfInBounds_toArray, List.set_cons_zero, List.set_cons_succ]
    refine wpAnyH_take (i := 25) (oi := ⟨some 120, _, _, _, _, _⟩) (v := undef) rfl (by kernel_rfl) (by kernel_rfl) (by kernel_rfl) (fun _ _ _ h => h) (Or.inr ⟨by rfl, rfl⟩) hHeld ?_
    try simp only [Act.put, List.setIfInBounds_toArray, List.set_cons_zero, List.set_cons_succ]
    refine wpAnyH_take (i := 26) (oi := ⟨some 121, _, _, _, _, _⟩) (v := undef) rfl (by kernel_rfl) (by kernel_rfl) (by kernel_rfl) (fun _ _ _ h => h) (Or.inr ⟨by rfl, rfl⟩) hHeld ?_
    try simp only [Act.put, List.setIfInBounds_toArray, List.set_cons_zero, List.set_cons_succ]
    refine wpAnyH_take (i := 27) (oi := ⟨some 122, _, _, _, _, _⟩) (v := ?_) rfl (by kernel_rfl) (by kernel_rfl) (by kernel_rfl) (fun _ _ _ h => h) (Or.inl ⟨by rfl, ?_⟩) hHeld ?_
    rotate_left
    · intro w' hS'
      (try dsimp only at hS')
      go_simp
      try with_reducible rfl
    try simp only [Act.put, List.setIfInBounds_toArray, List.set_cons_zero, List.set_cons_succ]
    refine wpAnyH_done (by kernel_rfl) ?_ _
    clear hHeld
    have hq0 : Below wd.heap.size wd wd.drew := (Below.refl _ _).drew
    have Hstq := Lib.hid (Hd.out.all hq0)
    have Ozq := Lib.hid (below_obj hq0 Ozd.out (obj_lt Ozd.out))
    have Hbq := Lib.hid (Hbd.out.trans (hq0.mono Hbd.out.size))
    have hwq := hq0.size
    generalize wd.drew = wq at *
    go_wp2_with (refine wpList_store_whole rfl 79 (.tmp 4) (.tmp 123) rfl (w.heap.size + 1 + 1) rfl 79 zSt zSt rfl Ozq.out Try.sizeSt rfl (zSt_O 0 w).c.one ?_; intro wz hobj hupdz)
    refine bodyPost_ret (results_cell_slot rfl _ wz (w.heap.size + 1 + 1) 79 zSt (0, 0) _ rfl hobj Try.underlying79 rfl Try.sizeSt) rfl ?_
    exact ⟨zSt, by rw [Hr2.out]; rfl, by rw [Hr2.out, if_neg (by decide)]; exact zSt_O _ _, (Hbq.out).trans (hupdz.below (by have := Hbb.out.size; have := (Hbq.out).size; omega) (fun k hk hb => by change _ = _ at hb; omega))⟩
  obtain ⟨k, rfl⟩ : ∃ k, n = k + 1 := ⟨n - 1, by omega⟩
  clear h0n
  have hkne : (((k : Int) + 1) == 0) = false := by simp; omega
  rcases Nat.eq_zero_or_pos m0 with h0m | h0m
  · subst h0m
    have Hr2 := Lib.hid (show r = 20 by rw [H_hr.out, Hrm.out]; simp)
    have HT := Lib.hid (show wd.drew.cell? ⟨wa.heap.size, 0, none⟩ = _ ∧ wd.drew.cell? ⟨wa.heap.size, 11, none⟩ = _ from ⟨K0.out, K11.out⟩)
    refine wp_region_held_drew (S := fun x => x.cell? ⟨wa.heap.size, 0, none⟩ = some (.slice a0 (k + 1) c0) ∧ x.cell? ⟨wa.heap.size, 11, none⟩ = some (.slice a1 0 c1)) (by kernel_rfl) HT.out (fun hHeld => ?_)
    refine wpAnyH_take (i := 0) (oi := ⟨some 95, _, _, _, _, _⟩) (v := ?_) rfl (by kernel_rfl) (by kernel_rfl) (by kernel_rfl) (fun _ _ _ h => h) (Or.inl ⟨by rfl, ?_⟩) hHeld ?_
    rotate_left
    · intro w' hS'
      (try dsimp only at hS')
      go_simp
      try with_reducible rfl
    try simp only [Act.put, List.setIfInBounds_toArray, List.set_cons_zero, List.set_cons_succ]
    refine wpAnyH_take (i := 1) (oi := ⟨some 96, _, _, _, _, _⟩) (v := ?_) rfl (by kernel_rfl) (by kernel_rfl) (by kernel_rfl) (fun _ _ _ h => h) (Or.inl ⟨by rfl, ?_⟩) hHeld ?_
    rotate_left
    · intro w' hS'
      (try dsimp only at hS')
      go_simp
      try with_reducible rfl
    try simp only [Act.put, List.setIfInBounds_toArray, List.set_cons_zero, List.set_cons_succ]
    refine wpAnyH_take (i := 2) (oi := ⟨some 97, _, _, _, _, _⟩) (v := ?_) rfl (by kernel_rfl) (by kernel_rfl) (by kernel_rfl) (fun _ _ _ h => h) (Or.inl ⟨by rfl, ?_⟩) hHeld ?_
    rotate_left
    · intro w' hS'
      (try dsimp only at hS')
      go_simp
      try with_reducible rfl
    try simp only [Act.put, List.setIfInBounds_toArray, List.set_cons_zero, List.set_cons_succ]
    refine wpAnyH_take (i := 3) (oi := ⟨some 98, _, _, _, _, _⟩) (v := ?_) rfl (by kernel_rfl) (by kernel_rfl) (by kernel_rfl) (fun _ _ _ h => h) (Or.inl ⟨by rfl, ?_⟩) hHeld ?_
    rotate_left
    · intro w' hS'
      (try dsimp only at hS')
      go_simp
      try with_reducible rfl
    try simp only [Act.put, List.setIfInBounds_toArray, List.set_cons_zero, List.set_cons_succ]
    refine wpAnyH_take (i := 4) (oi := ⟨some 99, _, _, _, _, _⟩) (v := ?_) rfl (by kernel_rfl) (by kernel_rfl) (by kernel_rfl) (fun _ _ _ h => h) (Or.inl ⟨by rfl, ?_⟩) hHeld ?_
    rotate_left
    · intro w' hS'
      (try dsimp only at hS')
      go_simp
      try with_reducible rfl
    try simp only [Act.put, List.setIfInBounds_toArray, List.set_cons_zero, List.set_cons_succ]
    refine wpAnyH_take (i := 5) (oi := ⟨some 100, _, _, _, _, _⟩) (v := ?_) rfl (by kernel_rfl) (by kernel_rfl) (by kernel_rfl) (fun _ _ _ h => h) (Or.inl ⟨by rfl, ?_⟩) hHeld ?_
    rotate_left
    · intro w' hS'
      (try dsimp only at hS')
      go_simp
      try with_reducible rfl
    try simp only [Act.put, List.setIfInBounds_toArray, List.set_cons_zero, List.set_cons_succ]
    refine wpAnyH_take (i := 6) (oi := ⟨some 101, _, _, _, _, _⟩) (v := ?_) rfl (by kernel_rfl) (by kernel_rfl) (by kernel_rfl) (fun _ _ _ h => h) (Or.inl ⟨by rfl, ?_⟩) hHeld ?_
    rotate_left
    · intro w' hS'
      (try dsimp only at hS')
      go_simp
      try with_reducible rfl
    try simp only [Act.put, List.setIfInBounds_toArray, List.set_cons_zero, List.set_cons_succ]
    refine wpAnyH_take (i := 7) (oi := ⟨some 102, _, _, _, _, _⟩) (v := undef) rfl (by kernel_rfl) (by kernel_rfl) (by kernel_rfl) (fun _ _ _ h => h) (Or.inr ⟨by rfl, rfl⟩) hHeld ?_
    try simp only [Act.put, List.setIfInBounds_toArray, List.set_cons_zero, List.set_cons_succ]
    refine wpAnyH_take (i := 8) (oi := ⟨some 103, _, _, _, _, _⟩) (v := undef) rfl (by kernel_rfl) (by kernel_rfl) (by kernel_rfl) (fun _ _ _ h => h) (Or.inr ⟨by rfl, rfl⟩) hHeld ?_
    try simp only [Act.put, List.setIfInBounds_toArray, List.set_cons_zero, List.set_cons_succ]
    refine wpAnyH_take (i := 9) (oi := ⟨some 104, _, _, _, _, _⟩) (v := undef) rfl (by kernel_rfl) (by kernel_rfl) (by kernel_rfl) (fun _ _ _ h => h) (Or.inr ⟨by rfl, rfl⟩) hHeld ?_
    try simp only [Act.put, List.setIfInBounds_toArray, List.set_cons_zero, List.set_cons_succ]
    refine wpAnyH_take (i := 10) (oi := ⟨some 105, _, _, _, _, _⟩) (v := undef) rfl (by kernel_rfl) (by kernel_rfl) (by kernel_rfl) (fun _ _ _ h => h) (Or.inr ⟨by rfl, rfl⟩) hHeld ?_
    try simp only [Act.put, List.setIfInBounds_toArray, List.set_cons_zero, List.set_cons_succ]
    refine wpAnyH_take (i := 11) (oi := ⟨some 106, _, _, _, _, _⟩) (v := undef) rfl (by kernel_rfl) (by kernel_rfl) (by kernel_rfl) (fun _ _ _ h => h) (Or.inr ⟨by rfl, rfl⟩) hHeld ?_
    try simp only [Act.put, List.setIfInBounds_toArray, List.set_cons_zero, List.set_cons_succ]
    refine wpAnyH_take (i := 12) (oi := ⟨some 107, _, _, _, _, _⟩) (v := undef) rfl (by kernel_rfl) (by kernel_rfl) (by kernel_rfl) (fun _ _ _ h => h) (Or.inr ⟨by rfl, rfl⟩) hHeld ?_
    try simp only [Act.put, List.setIfInBounds_toArray, List.set_cons_zero, List.set_cons_succ]
    refine wpAnyH_take (i := 13) (oi := ⟨some 108, _, _, _, _, _⟩) (v := undef) rfl (by kernel_rfl) (by kernel_rfl) (by kernel_rfl) (fun _ _ _ h => h) (Or.inr ⟨by rfl, rfl⟩) hHeld ?_
    try simp only [Act.put, List.setIfInBounds_toArray, List.set_cons_zero, List.set_cons_succ]
    refine wpAnyH_take (i := 14) (oi := ⟨some 109, _, _, _, _, _⟩) (v := undef) rfl (by kernel_rfl) (by kernel_rfl) (by kernel_rfl) (fun _ _ _ h => h) (Or.inr ⟨by rfl, rfl⟩) hHeld ?_
    try simp only [Act.put, List.setIfInBounds_toArray, List.set_cons_zero, List.set_cons_succ]
    refine wpAnyH_take (i := 15) (oi := ⟨some 110, _, _, _, _, _⟩) (v := undef) rfl (by kernel_rfl) (by kernel_rfl) (by kernel_rfl) (fun _ _ _ h => h) (Or.inr ⟨by rfl, rfl⟩) hHeld ?_
    try simp only [Act.put, List.setIfInBounds_toArray, List.set_cons_zero, List.set_cons_succ]
    refine wpAnyH_take (i := 16) (oi := ⟨some 111, _, _, _, _, _⟩) (v := undef) rfl (by kernel_rfl) (by kernel_rfl) (by kernel_rfl) (fun _ _ _ h => h) (Or.inr ⟨by rfl, rfl⟩) hHeld ?_
    try simp only [Act.put, List.setIfInBounds_toArray, List.set_cons_zero, List.set_cons_succ]
    refine wpAnyH_take (i := 17) (oi := ⟨some 112, _, _, _, _, _⟩) (v := ?_) rfl (by kernel_rfl) (by kernel_rfl) (by kernel_rfl) (fun _ _ _ h => h) (Or.inl ⟨by rfl, ?_⟩) hHeld ?_
    rotate_left
    · intro w' hS'
      (try dsimp only at hS')
      go_simp
      try with_reducible rfl
    try simp only [Act.put, List.setIfInBounds_toArray, List.set_cons_zero, List.set_cons_succ]
    refine wpAnyH_take (i := 18) (oi := ⟨some 113, _, _, _, _, _⟩) (v := ?_) rfl (by kernel_rfl) (by kernel_rfl) (by kernel_rfl) (fun _ _ _ h => h) (Or.inl ⟨by rfl, ?_⟩) hHeld ?_
    rotate_left
    · intro w' hS'
      (try dsimp only at hS')
      go_simp
      try with_reducible rfl
    try simp only [Act.put, List.setIfInBounds_toArray, List.set_cons_zero, List.set_cons_succ]
    refine wpAnyH_take (i := 19) (oi := ⟨some 114, _, _, _, _, _⟩) (v := undef) rfl (by kernel_rfl) (by kernel_rfl) (by kernel_rfl) (fun _ _ _ h => h) (Or.inr ⟨by rfl, rfl⟩) hHeld ?_
    try simp only [Act.put, List.setIfInBounds_toArray, List.set_cons_zero, List.set_cons_succ]
    refine wpAnyH_take (i := 20) (oi := ⟨some 115, _, _, _, _, _⟩) (v := undef) rfl (by kernel_rfl) (by kernel_rfl) (by kernel_rfl) (fun _ _ _ h => h) (Or.inr ⟨by rfl, rfl⟩) hHeld ?_
    try simp only [Act.put, List.setIfInBounds_toArray, List.set_cons_zero, List.set_cons_succ]
    refine wpAnyH_take (i := 21) (oi := ⟨some 116, _, _, _, _, _⟩) (v := undef) rfl (by kernel_rfl) (by kernel_rfl) (by kernel_rfl) (fun _ _ _ h => h) (Or.inr ⟨by rfl, rfl⟩) hHeld ?_
    try simp only [Act.put, List.setIfInBounds_toArray, List.set_cons_zero, List.set_cons_succ]
    refine wpAnyH_take (i := 22) (oi := ⟨some 117, _, _, _, _, _⟩) (v := undef) rfl (by kernel_rfl) (by kernel_rfl) (by kernel_rfl) (fun _ _ _ h => h) (Or.inr ⟨by rfl, rfl⟩) hHeld ?_
    try simp only [Act.put, List.setIfInBounds_toArray, List.set_cons_zero, List.set_cons_succ]
    refine wpAnyH_take (i := 23) (oi := ⟨some 118, _, _, _, _, _⟩) (v := undef) rfl (by kernel_rfl) (by kernel_rfl) (by kernel_rfl) (fun _ _ _ h => h) (Or.inr ⟨by rfl, rfl⟩) hHeld ?_
    try simp only [Act.put, List.setIfInBounds_toArray, List.set_cons_zero, List.set_cons_succ]
    refine wpAnyH_take (i := 24) (oi := ⟨some 119, _, _, _, _, _⟩) (v := undef) rfl (by kernel_rfl) (by kernel_rfl) (by kernel_rfl) (fun _ _ _ h => h) (Or.inr ⟨by rfl, rfl⟩) hHeld ?_
    try simp only [Act.put, List.setIfInBounds_toArray, List.set_cons_zero, List.set_cons_succ]
    refine wpAnyH_take (i := 25) (oi := ⟨some 120, _, _, _, _, _⟩) (v := undef) rfl (by kernel_rfl) (by kernel_rfl) (by kernel_rfl) (fun _ _ _ h => h) (Or.inr ⟨by rfl, rfl⟩) hHeld ?_
    try simp only [Act.put, List.setIfInBounds_toArray, List.set_cons_zero, List.set_cons_succ]
    refine wpAnyH_take (i := 26) (oi := ⟨some 121, _, _, _, _, _⟩) (v := undef) rfl (by kernel_rfl) (by kernel_rfl) (by kernel_rfl) (fun _ _ _ h => h) (Or.inr ⟨by rfl, rfl⟩) hHeld ?_
    try simp only [Act.put, List.setIfInBounds_toArray, List.set_cons_zero, List.set_cons_succ]
    refine wpAnyH_take (i := 27) (oi := ⟨some 122, _, _, _, _, _⟩) (v := ?_) rfl (by kernel_rfl) (by kernel_rfl) (by kernel_rfl) (fun _ _ _ h => h) (Or.inl ⟨by rfl, ?_⟩) hHeld ?_
    rotate_left
    · intro w' hS'
      (try dsimp only at hS')
      go_simp
      try with_reducible rfl
    try simp only [Act.put, List.setIfInBounds_toArray, List.set_cons_zero, List.set_cons_succ]
    refine wpAnyH_done (by kernel_rfl) ?_ _
    clear hHeld
    have hq0 : Below wd.heap.size wd wd.drew := (Below.refl _ _).drew
    have Hstq := Lib.hid (Hd.out.all hq0)
    have Ozq := Lib.hid (below_obj hq0 Ozd.out (obj_lt Ozd.out))
    have Hbq := Lib.hid (Hbd.out.trans (hq0.mono Hbd.out.size))
    have hwq := hq0.size
    generalize wd.drew = wq at *
    go_wp2_with (refine wpList_store_whole rfl 79 (.tmp 4) (.tmp 123) rfl (w.heap.size + 1 + 1) rfl 79 zSt zSt rfl Ozq.out Try.sizeSt rfl (zSt_O 0 w).c.one ?_; intro wz hobj hupdz)
    refine bodyPost_ret (results_cell_slot rfl _ wz (w.heap.size + 1 + 1) 79 zSt (0, 0) _ rfl hobj Try.underlying79 rfl Try.sizeSt) rfl ?_
    exact ⟨zSt, by rw [Hr2.out]; rfl, by rw [Hr2.out, if_neg (by decide)]; exact zSt_O _ _, (Hbq.out).trans (hupdz.below (by have := Hbb.out.size; have := (Hbq.out).size; omega) (fun k hk hb => by change _ = _ at hb; omega))⟩
  obtain ⟨m, rfl⟩ : ∃ m, m0 = m + 1 := ⟨m0 - 1, by omega⟩
  clear h0m
  have hmne : (((m : Int) + 1) == 0) = false := by simp; omega
  obtain ⟨lb, lo, rfl, hlb, hlc⟩ := Rl.out.sl.nonempty (by omega)
  have kv := hlc m _ (map_int_cell (by have := Hm.out; omega))
  obtain ⟨v, hv⟩ : ∃ v, v = l.getD m 0 := ⟨_, rfl⟩
  rw [← hv] at kv
  have Hv := Lib.hid hv
  obtain ⟨ob, oo, rfl, hob, rg⟩ := obj_at Rd.out.sl Ok.out.o Hn.out (k := k) (by omega)
  obtain ⟨xl, hxl⟩ : ∃ xl, xl = s.o.getD k [] := ⟨_, rfl⟩
  have h18 := obj_len Ok.out (i := k) (by have := Hn.out; omega)
  rw [← hxl] at rg h18
  have H18 := Lib.hid h18
  have Hxl := Lib.hid hxl
  have rgn := World.rangeAt_of_block Ond.out 0 18
  have rgn2 : wd.rangeAt wb.heap.size 0 (objC (madeL e)) := rgn
  have HT := Lib.hid (show wd.drew.cell? ⟨wa.heap.size, 0, none⟩ = _ ∧ wd.drew.cell? ⟨wa.heap.size, 11, none⟩ = _ ∧ wd.drew.cell? ⟨lb, lo + m, none⟩ = _ ∧ wd.drew.rangeAt ob (oo + k * 18) (objC xl) ∧ wd.drew.rangeAt wb.heap.size 0 (objC (madeL e)) from ⟨K0.out, K11.out, kv, rg, rgn2⟩)
  have Hrm2 : Hid (rmB s e = (decide (v = (k : Int)) && decide (xl = madeL e))) := Lib.hid (by rw [Hrm.out, Hv.out, Hxl.out, Nat.add_sub_cancel, Nat.add_sub_cancel, show ((k + 1 : Nat) : Int) - 1 = k by omega]; simp)
  clear hlc kv hv rg hxl h18 rgn rgn2
  have hwm : IntKind.i64.wrap (m : Int) = (m : Int) := by simp [IntKind.wrap, IntKind.signed, IntKind.bits]; omega
  have hwk : IntKind.i64.wrap (k : Int) = (k : Int) := by simp [IntKind.wrap, IntKind.signed, IntKind.bits]; omega
  have hmm1 : (m : Int) < (m : Int) + 1 := by omega
  have hkk1 : (k : Int) < (k : Int) + 1 := by omega
  have hm00 : (0 : Int) ≤ (m : Int) := by omega
  have hk00 : (0 : Int) ≤ (k : Int) := by omega
  by_cases hvk : v = (k : Int)
  rotate_left
  · have hvk' : (v != (k : Int)) = true := by simp [hvk]
    have Hr2 := Lib.hid (show r = 20 by rw [H_hr.out, Hrm2.out]; simp [hvk])
    clear hvk
    refine wp_region_held_drew (S := fun x => x.cell? ⟨wa.heap.size, 0, none⟩ = some (.slice (some ⟨ob, oo, none⟩) (k + 1) c0) ∧ x.cell? ⟨wa.heap.size, 11, none⟩ = some (.slice (some ⟨lb, lo, none⟩) (m + 1) c1) ∧ x.cell? ⟨lb, lo + m, none⟩ = some (.int .i64 v) ∧ x.rangeAt ob (oo + k * 18) (objC xl) ∧ x.rangeAt wb.heap.size 0 (objC (madeL e))) (by kernel_rfl) HT.out (fun hHeld => ?_)
    refine wpAnyH_take (i := 0) (oi := ⟨some 95, _, _, _, _, _⟩) (v := ?_) rfl (by kernel_rfl) (by kernel_rfl) (by kernel_rfl) (fun _ _ _ h => h) (Or.inl ⟨by rfl, ?_⟩) hHeld ?_
    rotate_left
    · intro w' hS'
      (try dsimp only at hS')
      go_simp
      try with_reducible rfl
    try simp only [Act.put, List.setIfInBounds_toArray, List.set_cons_zero, List.set_cons_succ]
    refine wpAnyH_take (i := 1) (oi := ⟨some 96, _, _, _, _, _⟩) (v := ?_) rfl (by kernel_rfl) (by kernel_rfl) (by kernel_rfl) (fun _ _ _ h => h) (Or.inl ⟨by rfl, ?_⟩) hHeld ?_
    rotate_left
    · intro w' hS'
      (try dsimp only at hS')
      go_simp
      try with_reducible rfl
    try simp only [Act.put, List.setIfInBounds_toArray, List.set_cons_zero, List.set_cons_succ]
    refine wpAnyH_take (i := 2) (oi := ⟨some 97, _, _, _, _, _⟩) (v := ?_) rfl (by kernel_rfl) (by kernel_rfl) (by kernel_rfl) (fun _ _ _ h => h) (Or.inl ⟨by rfl, ?_⟩) hHeld ?_
    rotate_left
    · intro w' hS'
      (try dsimp only at hS')
      go_simp
      try with_reducible rfl
    try simp only [Act.put, List.setIfInBounds_toArray, List.set_cons_zero, List.set_cons_succ]
    refine wpAnyH_take (i := 3) (oi := ⟨some 98, _, _, _, _, _⟩) (v := ?_) rfl (by kernel_rfl) (by kernel_rfl) (by kernel_rfl) (fun _ _ _ h => h) (Or.inl ⟨by rfl, ?_⟩) hHeld ?_
    rotate_left
    · intro w' hS'
      (try dsimp only at hS')
      go_simp
      try with_reducible rfl
    try simp only [Act.put, List.setIfInBounds_toArray, List.set_cons_zero, List.set_cons_succ]
    refine wpAnyH_take (i := 4) (oi := ⟨some 99, _, _, _, _, _⟩) (v := ?_) rfl (by kernel_rfl) (by kernel_rfl) (by kernel_rfl) (fun _ _ _ h => h) (Or.inl ⟨by rfl, ?_⟩) hHeld ?_
    rotate_left
    · intro w' hS'
      (try dsimp only at hS')
      go_simp
      try with_reducible rfl
    try simp only [Act.put, List.setIfInBounds_toArray, List.set_cons_zero, List.set_cons_succ]
    refine wpAnyH_take (i := 5) (oi := ⟨some 100, _, _, _, _, _⟩) (v := ?_) rfl (by kernel_rfl) (by kernel_rfl) (by kernel_rfl) (fun _ _ _ h => h) (Or.inl ⟨by rfl, ?_⟩) hHeld ?_
    rotate_left
    · intro w' hS'
      (try dsimp only at hS')
      go_simp
      try with_reducible rfl
    try simp only [Act.put, List.setIfInBounds_toArray, List.set_cons_zero, List.set_cons_succ]
    refine wpAnyH_take (i := 6) (oi := ⟨some 101, _, _, _, _, _⟩) (v := ?_) rfl (by kernel_rfl) (by kernel_rfl) (by kernel_rfl) (fun _ _ _ h => h) (Or.inl ⟨by rfl, ?_⟩) hHeld ?_
    rotate_left
    · intro w' hS'
      (try dsimp only at hS')
      go_simp
      try with_reducible rfl
    try simp only [Act.put, List.setIfInBounds_toArray, List.set_cons_zero, List.set_cons_succ]
    refine wpAnyH_take (i := 7) (oi := ⟨some 102, _, _, _, _, _⟩) (v := ?_) rfl (by kernel_rfl) (by kernel_rfl) (by kernel_rfl) (fun _ _ _ h => h) (Or.inl ⟨by rfl, ?_⟩) hHeld ?_
    rotate_left
    · intro w' hS'
      (try dsimp only at hS')
      go_simp
      try with_reducible rfl
    try simp only [Act.put, List.setIfInBounds_toArray, List.set_cons_zero, List.set_cons_succ]
    refine wpAnyH_take (i := 8) (oi := ⟨some 103, _, _, _, _, _⟩) (v := ?_) rfl (by kernel_rfl) (by kernel_rfl) (by kernel_rfl) (fun _ _ _ h => h) (Or.inl ⟨by rfl, ?_⟩) hHeld ?_
    rotate_left
    · intro w' hS'
      (try dsimp only at hS')
      go_simp
      try with_reducible rfl
    try simp only [Act.put, List.setIfInBounds_toArray, List.set_cons_zero, List.set_cons_succ]
    refine wpAnyH_take (i := 9) (oi := ⟨some 104, _, _, _, _, _⟩) (v := ?_) rfl (by kernel_rfl) (by kernel_rfl) (by kernel_rfl) (fun _ _ _ h => h) (Or.inl ⟨by rfl, ?_⟩) hHeld ?_
    rotate_left
    · intro w' hS'
      (try dsimp only at hS')
      go_simp
      try with_reducible rfl
    try simp only [Act.put, List.setIfInBounds_toArray, List.set_cons_zero, List.set_cons_succ]
    refine wpAnyH_take (i := 10) (oi := ⟨some 105, _, _, _, _, _⟩) (v := ?_) rfl (by kernel_rfl) (by kernel_rfl) (by kernel_rfl) (fun _ _ _ h => h) (Or.inl ⟨by rfl, ?_⟩) hHeld ?_
    rotate_left
    · intro w' hS'
      (try dsimp only at hS')
      go_simp
      try with_reducible rfl
    try simp only [Act.put, List.setIfInBounds_toArray, List.set_cons_zero, List.set_cons_succ]
    refine wpAnyH_take (i := 11) (oi := ⟨some 106, _, _, _, _, _⟩) (v := ?_) rfl (by kernel_rfl) (by kernel_rfl) (by kernel_rfl) (fun _ _ _ h => h) (Or.inl ⟨by rfl, ?_⟩) hHeld ?_
    rotate_left
    · intro w' hS'
      (try dsimp only at hS')
      go_simp
      try with_reducible rfl
    try simp only [Act.put, List.setIfInBounds_toArray, List.set_cons_zero, List.set_cons_succ]
    refine wpAnyH_take (i := 12) (oi := ⟨some 107, _, _, _, _, _⟩) (v := ?_) rfl (by kernel_rfl) (by kernel_rfl) (by kernel_rfl) (fun _ _ _ h => h) (Or.inl ⟨by rfl, ?_⟩) hHeld ?_
    rotate_left
    · intro w' hS'
      (try dsimp only at hS')
      go_simp
      try with_reducible rfl
    try simp only [Act.put, List.setIfInBounds_toArray, List.set_cons_zero, List.set_cons_succ]
    refine wpAnyH_take (i := 13) (oi := ⟨some 108, _, _, _, _, _⟩) (v := ?_) rfl (by kernel_rfl) (by kernel_rfl) (by kernel_rfl) (fun _ _ _ h => h) (Or.inl ⟨by rfl, ?_⟩) hHeld ?_
    rotate_left
    · intro w' hS'
      (try dsimp only at hS')
      go_simp
      try with_reducible rfl
    try simp only [Act.put, List.setIfInBounds_toArray, List.set_cons_zero, List.set_cons_succ]
    refine wpAnyH_take (i := 14) (oi := ⟨some 109, _, _, _, _, _⟩) (v := ?_) rfl (by kernel_rfl) (by kernel_rfl) (by kernel_rfl) (fun _ _ _ h => h) (Or.inl ⟨by rfl, ?_⟩) hHeld ?_
    rotate_left
    · intro w' hS'
      (try dsimp only at hS')
      go_simp
      try with_reducible rfl
    try simp only [Act.put, List.setIfInBounds_toArray, List.set_cons_zero, List.set_cons_succ]
    refine wpAnyH_take (i := 15) (oi := ⟨some 110, _, _, _, _, _⟩) (v := ?_) rfl (by kernel_rfl) (by kernel_rfl) (by kernel_rfl) (fun _ _ _ h => h) (Or.inl ⟨by rfl, ?_⟩) hHeld ?_
    rotate_left
    · intro w' hS'
      (try dsimp only at hS')
      go_simp
      try with_reducible rfl
    try simp only [Act.put, List.setIfInBounds_toArray, List.set_cons_zero, List.set_cons_succ]
    refine wpAnyH_take (i := 16) (oi := ⟨some 111, _, _, _, _, _⟩) (v := ?_) rfl (by kernel_rfl) (by kernel_rfl) (by kernel_rfl) (fun _ _ _ h => h) (Or.inl ⟨by rfl, ?_⟩) hHeld ?_
    rotate_left
    · intro w' hS'
      (try dsimp only at hS')
      go_simp
      try with_reducible rfl
    try simp only [Act.put, List.setIfInBounds_toArray, List.set_cons_zero, List.set_cons_succ]
    refine wpAnyH_take (i := 17) (oi := ⟨some 112, _, _, _, _, _⟩) (v := ?_) rfl (by kernel_rfl) (by kernel_rfl) (by kernel_rfl) (fun _ _ _ h => h) (Or.inl ⟨by rfl, ?_⟩) hHeld ?_
    rotate_left
    · intro w' hS'
      (try dsimp only at hS')
      go_simp
      try with_reducible rfl
    try simp only [Act.put, List.setIfInBounds_toArray, List.set_cons_zero, List.set_cons_succ]
    refine wpAnyH_take (i := 18) (oi := ⟨some 113, _, _, _, _, _⟩) (v := ?_) rfl (by kernel_rfl) (by kernel_rfl) (by kernel_rfl) (fun _ _ _ h => h) (Or.inl ⟨by rfl, ?_⟩) hHeld ?_
    rotate_left
    · intro w' hS'
      (try dsimp only at hS')
      go_simp
      try with_reducible rfl
    try simp only [Act.put, List.setIfInBounds_toArray, List.set_cons_zero, List.set_cons_succ]
    refine wpAnyH_take (i := 19) (oi := ⟨some 114, _, _, _, _, _⟩) (v := undef) rfl (by kernel_rfl) (by kernel_rfl) (by kernel_rfl) (fun _ _ _ h => h) (Or.inr ⟨by rfl, rfl⟩) hHeld ?_
    try simp only [Act.put, List.setIfInBounds_toArray, List.set_cons_zero, List.set_cons_succ]
    refine wpAnyH_take (i := 20) (oi := ⟨some 115, _, _, _, _, _⟩) (v := undef) rfl (by kernel_rfl) (by kernel_rfl) (by kernel_rfl) (fun _ _ _ h => h) (Or.inr ⟨by rfl, rfl⟩) hHeld ?_
    try simp only [Act.put, List.setIfInBounds_toArray, List.set_cons_zero, List.set_cons_succ]
    refine wpAnyH_take (i := 21) (oi := ⟨some 116, _, _, _, _, _⟩) (v := undef) rfl (by kernel_rfl) (by kernel_rfl) (by kernel_rfl) (fun _ _ _ h => h) (Or.inr ⟨by rfl, rfl⟩) hHeld ?_
    try simp only [Act.put, List.setIfInBounds_toArray, List.set_cons_zero, List.set_cons_succ]
    refine wpAnyH_take (i := 22) (oi := ⟨some 117, _, _, _, _, _⟩) (v := undef) rfl (by kernel_rfl) (by kernel_rfl) (by kernel_rfl) (fun _ _ _ h => h) (Or.inr ⟨by rfl, rfl⟩) hHeld ?_
    try simp only [Act.put, List.setIfInBounds_toArray, List.set_cons_zero, List.set_cons_succ]
    refine wpAnyH_take (i := 23) (oi := ⟨some 118, _, _, _, _, _⟩) (v := undef) rfl (by kernel_rfl) (by kernel_rfl) (by kernel_rfl) (fun _ _ _ h => h) (Or.inr ⟨by rfl, rfl⟩) hHeld ?_
    try simp only [Act.put, List.setIfInBounds_toArray, List.set_cons_zero, List.set_cons_succ]
    refine wpAnyH_take (i := 24) (oi := ⟨some 119, _, _, _, _, _⟩) (v := undef) rfl (by kernel_rfl) (by kernel_rfl) (by kernel_rfl) (fun _ _ _ h => h) (Or.inr ⟨by rfl, rfl⟩) hHeld ?_
    try simp only [Act.put, List.setIfInBounds_toArray, List.set_cons_zero, List.set_cons_succ]
    refine wpAnyH_take (i := 25) (oi := ⟨some 120, _, _, _, _, _⟩) (v := undef) rfl (by kernel_rfl) (by kernel_rfl) (by kernel_rfl) (fun _ _ _ h => h) (Or.inr ⟨by rfl, rfl⟩) hHeld ?_
    try simp only [Act.put, List.setIfInBounds_toArray, List.set_cons_zero, List.set_cons_succ]
    refine wpAnyH_take (i := 26) (oi := ⟨some 121, _, _, _, _, _⟩) (v := undef) rfl (by kernel_rfl) (by kernel_rfl) (by kernel_rfl) (fun _ _ _ h => h) (Or.inr ⟨by rfl, rfl⟩) hHeld ?_
    try simp only [Act.put, List.setIfInBounds_toArray, List.set_cons_zero, List.set_cons_succ]
    refine wpAnyH_take (i := 27) (oi := ⟨some 122, _, _, _, _, _⟩) (v := ?_) rfl (by kernel_rfl) (by kernel_rfl) (by kernel_rfl) (fun _ _ _ h => h) (Or.inl ⟨by rfl, ?_⟩) hHeld ?_
    rotate_left
    · intro w' hS'
      (try dsimp only at hS')
      go_simp
      try with_reducible rfl
    try simp only [Act.put, List.setIfInBounds_toArray, List.set_cons_zero, List.set_cons_succ]
    refine wpAnyH_done (by kernel_rfl) ?_ _
    clear hwm hwk
    clear hHeld
    have hq0 : Below wd.heap.size wd wd.drew := (Below.refl _ _).drew
    have Hstq := Lib.hid (Hd.out.all hq0)
    have Ozq := Lib.hid (below_obj hq0 Ozd.out (obj_lt Ozd.out))
    have Hbq := Lib.hid (Hbd.out.trans (hq0.mono Hbd.out.size))
    have hwq := hq0.size
    generalize wd.drew = wq at *
    go_wp2_with (refine wpList_store_whole rfl 79 (.tmp 4) (.tmp 123) rfl (w.heap.size + 1 + 1) rfl 79 zSt zSt rfl Ozq.out Try.sizeSt rfl (zSt_O 0 w).c.one ?_; intro wz hobj hupdz)
    refine bodyPost_ret (results_cell_slot rfl _ wz (w.heap.size + 1 + 1) 79 zSt (0, 0) _ rfl hobj Try.underlying79 rfl Try.sizeSt) rfl ?_
    exact ⟨zSt, by rw [Hr2.out]; rfl, by rw [Hr2.out, if_neg (by decide)]; exact zSt_O _ _, (Hbq.out).trans (hupdz.below (by have := Hbb.out.size; have := (Hbq.out).size; omega) (fun k hk hb => by change _ = _ at hb; omega))⟩
  have hvk' : (v != (k : Int)) = false := by simp [hvk]
  by_cases hxe : xl = madeL e
  rotate_left
  · have q : ∀ w, (binOp .neq 108 (.agg (objC xl).toArray) (.agg (objC (madeL e)).toArray)).run Try.prog w = .ok (.bool true) w := fun w => (obj_neq w xl (madeL e) H18.out rfl).trans (by simp [hxe])
    have Hr2 := Lib.hid (show r = 20 by rw [H_hr.out, Hrm2.out]; simp [hxe])
    clear hxe
    refine wp_region_held_drew (S := fun x => x.cell? ⟨wa.heap.size, 0, none⟩ = some (.slice (some ⟨ob, oo, none⟩) (k + 1) c0) ∧ x.cell? ⟨wa.heap.size, 11, none⟩ = some (.slice (some ⟨lb, lo, none⟩) (m + 1) c1) ∧ x.cell? ⟨lb, lo + m, none⟩ = some (.int .i64 v) ∧ x.rangeAt ob (oo + k * 18) (objC xl) ∧ x.rangeAt wb.heap.size 0 (objC (madeL e))) (by kernel_rfl) HT.out (fun hHeld => ?_)
    refine wpAnyH_take (i := 0) (oi := ⟨some 95, _, _, _, _, _⟩) (v := ?_) rfl (by kernel_rfl) (by kernel_rfl) (by kernel_rfl) (fun _ _ _ h => h) (Or.inl ⟨by rfl, ?_⟩) hHeld ?_
    rotate_left
    · intro w' hS'
      (try dsimp only at hS')
      go_simp
      try with_reducible rfl
    try simp only [Act.put, List.setIfInBounds_toArray, List.set_cons_zero, List.set_cons_succ]
    refine wpAnyH_take (i := 1) (oi := ⟨some 96, _, _, _, _, _⟩) (v := ?_) rfl (by kernel_rfl) (by kernel_rfl) (by kernel_rfl) (fun _ _ _ h => h) (Or.inl ⟨by rfl, ?_⟩) hHeld ?_
    rotate_left
    · intro w' hS'
      (try dsimp only at hS')
      go_simp
      try with_reducible rfl
    try simp only [Act.put, List.setIfInBounds_toArray, List.set_cons_zero, List.set_cons_succ]
    refine wpAnyH_take (i := 2) (oi := ⟨some 97, _, _, _, _, _⟩) (v := ?_) rfl (by kernel_rfl) (by kernel_rfl) (by kernel_rfl) (fun _ _ _ h => h) (Or.inl ⟨by rfl, ?_⟩) hHeld ?_
    rotate_left
    · intro w' hS'
      (try dsimp only at hS')
      go_simp
      try with_reducible rfl
    try simp only [Act.put, List.setIfInBounds_toArray, List.set_cons_zero, List.set_cons_succ]
    refine wpAnyH_take (i := 3) (oi := ⟨some 98, _, _, _, _, _⟩) (v := ?_) rfl (by kernel_rfl) (by kernel_rfl) (by kernel_rfl) (fun _ _ _ h => h) (Or.inl ⟨by rfl, ?_⟩) hHeld ?_
    rotate_left
    · intro w' hS'
      (try dsimp only at hS')
      go_simp
      try with_reducible rfl
    try simp only [Act.put, List.setIfInBounds_toArray, List.set_cons_zero, List.set_cons_succ]
    refine wpAnyH_take (i := 4) (oi := ⟨some 99, _, _, _, _, _⟩) (v := ?_) rfl (by kernel_rfl) (by kernel_rfl) (by kernel_rfl) (fun _ _ _ h => h) (Or.inl ⟨by rfl, ?_⟩) hHeld ?_
    rotate_left
    · intro w' hS'
      (try dsimp only at hS')
      go_simp
      try with_reducible rfl
    try simp only [Act.put, List.setIfInBounds_toArray, List.set_cons_zero, List.set_cons_succ]
    refine wpAnyH_take (i := 5) (oi := ⟨some 100, _, _, _, _, _⟩) (v := ?_) rfl (by kernel_rfl) (by kernel_rfl) (by kernel_rfl) (fun _ _ _ h => h) (Or.inl ⟨by rfl, ?_⟩) hHeld ?_
    rotate_left
    · intro w' hS'
      (try dsimp only at hS')
      go_simp
      try with_reducible rfl
    try simp only [Act.put, List.setIfInBounds_toArray, List.set_cons_zero, List.set_cons_succ]
    refine wpAnyH_take (i := 6) (oi := ⟨some 101, _, _, _, _, _⟩) (v := ?_) rfl (by kernel_rfl) (by kernel_rfl) (by kernel_rfl) (fun _ _ _ h => h) (Or.inl ⟨by rfl, ?_⟩) hHeld ?_
    rotate_left
    · intro w' hS'
      (try dsimp only at hS')
      go_simp
      try with_reducible rfl
    try simp only [Act.put, List.setIfInBounds_toArray, List.set_cons_zero, List.set_cons_succ]
    refine wpAnyH_take (i := 7) (oi := ⟨some 102, _, _, _, _, _⟩) (v := ?_) rfl (by kernel_rfl) (by kernel_rfl) (by kernel_rfl) (fun _ _ _ h => h) (Or.inl ⟨by rfl, ?_⟩) hHeld ?_
    rotate_left
    · intro w' hS'
      (try dsimp only at hS')
      go_simp
      try with_reducible rfl
    try simp only [Act.put, List.setIfInBounds_toArray, List.set_cons_zero, List.set_cons_succ]
    refine wpAnyH_take (i := 8) (oi := ⟨some 103, _, _, _, _, _⟩) (v := ?_) rfl (by kernel_rfl) (by kernel_rfl) (by kernel_rfl) (fun _ _ _ h => h) (Or.inl ⟨by rfl, ?_⟩) hHeld ?_
    rotate_left
    · intro w' hS'
      (try dsimp only at hS')
      go_simp
      try with_reducible rfl
    try simp only [Act.put, List.setIfInBounds_toArray, List.set_cons_zero, List.set_cons_succ]
    refine wpAnyH_take (i := 9) (oi := ⟨some 104, _, _, _, _, _⟩) (v := ?_) rfl (by kernel_rfl) (by kernel_rfl) (by kernel_rfl) (fun _ _ _ h => h) (Or.inl ⟨by rfl, ?_⟩) hHeld ?_
    rotate_left
    · intro w' hS'
      (try dsimp only at hS')
      go_simp
      try with_reducible rfl
    try simp only [Act.put, List.setIfInBounds_toArray, List.set_cons_zero, List.set_cons_succ]
    refine wpAnyH_take (i := 10) (oi := ⟨some 105, _, _, _, _, _⟩) (v := ?_) rfl (by kernel_rfl) (by kernel_rfl) (by kernel_rfl) (fun _ _ _ h => h) (Or.inl ⟨by rfl, ?_⟩) hHeld ?_
    rotate_left
    · intro w' hS'
      (try dsimp only at hS')
      go_simp
      try with_reducible rfl
    try simp only [Act.put, List.setIfInBounds_toArray, List.set_cons_zero, List.set_cons_succ]
    refine wpAnyH_take (i := 11) (oi := ⟨some 106, _, _, _, _, _⟩) (v := ?_) rfl (by kernel_rfl) (by kernel_rfl) (by kernel_rfl) (fun _ _ _ h => h) (Or.inl ⟨by rfl, ?_⟩) hHeld ?_
    rotate_left
    · intro w' hS'
      (try dsimp only at hS')
      go_simp
      try with_reducible rfl
    try simp only [Act.put, List.setIfInBounds_toArray, List.set_cons_zero, List.set_cons_succ]
    refine wpAnyH_take (i := 12) (oi := ⟨some 107, _, _, _, _, _⟩) (v := ?_) rfl (by kernel_rfl) (by kernel_rfl) (by kernel_rfl) (fun _ _ _ h => h) (Or.inl ⟨by rfl, ?_⟩) hHeld ?_
    rotate_left
    · intro w' hS'
      (try dsimp only at hS')
      go_simp
      try with_reducible rfl
    try simp only [Act.put, List.setIfInBounds_toArray, List.set_cons_zero, List.set_cons_succ]
    refine wpAnyH_take (i := 13) (oi := ⟨some 108, _, _, _, _, _⟩) (v := ?_) rfl (by kernel_rfl) (by kernel_rfl) (by kernel_rfl) (fun _ _ _ h => h) (Or.inl ⟨by rfl, ?_⟩) hHeld ?_
    rotate_left
    · intro w' hS'
      (try dsimp only at hS')
      go_simp
      try with_reducible rfl
    try simp only [Act.put, List.setIfInBounds_toArray, List.set_cons_zero, List.set_cons_succ]
    refine wpAnyH_take (i := 14) (oi := ⟨some 109, _, _, _, _, _⟩) (v := ?_) rfl (by kernel_rfl) (by kernel_rfl) (by kernel_rfl) (fun _ _ _ h => h) (Or.inl ⟨by rfl, ?_⟩) hHeld ?_
    rotate_left
    · intro w' hS'
      (try dsimp only at hS')
      go_simp
      try with_reducible rfl
    try simp only [Act.put, List.setIfInBounds_toArray, List.set_cons_zero, List.set_cons_succ]
    refine wpAnyH_take (i := 15) (oi := ⟨some 110, _, _, _, _, _⟩) (v := ?_) rfl (by kernel_rfl) (by kernel_rfl) (by kernel_rfl) (fun _ _ _ h => h) (Or.inl ⟨by rfl, ?_⟩) hHeld ?_
    rotate_left
    · intro w' hS'
      (try dsimp only at hS')
      go_simp
      try with_reducible rfl
    try simp only [Act.put, List.setIfInBounds_toArray, List.set_cons_zero, List.set_cons_succ]
    refine wpAnyH_take (i := 16) (oi := ⟨some 111, _, _, _, _, _⟩) (v := ?_) rfl (by kernel_rfl) (by kernel_rfl) (by kernel_rfl) (fun _ _ _ h => h) (Or.inl ⟨by rfl, ?_⟩) hHeld ?_
    rotate_left
    · intro w' hS'
      (try dsimp only at hS')
      go_simp
      try with_reducible rfl
    try simp only [Act.put, List.setIfInBounds_toArray, List.set_cons_zero, List.set_cons_succ]
    refine wpAnyH_take (i := 17) (oi := ⟨some 112, _, _, _, _, _⟩) (v := ?_) rfl (by kernel_rfl) (by kernel_rfl) (by kernel_rfl) (fun _ _ _ h => h) (Or.inl ⟨by rfl, ?_⟩) hHeld ?_
    rotate_left
    · intro w' hS'
      (try dsimp only at hS')
      go_simp
      try with_reducible rfl
    try simp only [Act.put, List.setIfInBounds_toArray, List.set_cons_zero, List.set_cons_succ]
    refine wpAnyH_take (i := 18) (oi := ⟨some 113, _, _, _, _, _⟩) (v := ?_) rfl (by kernel_rfl) (by kernel_rfl) (by kernel_rfl) (fun _ _ _ h => h) (Or.inl ⟨by rfl, ?_⟩) hHeld ?_
    rotate_left
    · intro w' hS'
      (try dsimp only at hS')
      go_simp
      try with_reducible rfl
    try simp only [Act.put, List.setIfInBounds_toArray, List.set_cons_zero, List.set_cons_succ]
    refine wpAnyH_take (i := 19) (oi := ⟨some 114, _, _, _, _, _⟩) (v := ?_) rfl (by kernel_rfl) (by kernel_rfl) (by kernel_rfl) (fun _ _ _ h => h) (Or.inl ⟨by rfl, ?_⟩) hHeld ?_
    rotate_left
    · intro w' hS'
      (try dsimp only at hS')
      go_simp
      try with_reducible rfl
    try simp only [Act.put, List.setIfInBounds_toArray, List.set_cons_zero, List.set_cons_succ]
    refine wpAnyH_take (i := 20) (oi := ⟨some 115, _, _, _, _, _⟩) (v := ?_) rfl (by kernel_rfl) (by kernel_rfl) (by kernel_rfl) (fun _ _ _ h => h) (Or.inl ⟨by rfl, ?_⟩) hHeld ?_
    rotate_left
    · intro w' hS'
      (try dsimp only at hS')
      go_simp
      try with_reducible rfl
    try simp only [Act.put, List.setIfInBounds_toArray, List.set_cons_zero, List.set_cons_succ]
    refine wpAnyH_take (i := 21) (oi := ⟨some 116, _, _, _, _, _⟩) (v := ?_) rfl (by kernel_rfl) (by kernel_rfl) (by kernel_rfl) (fun _ _ _ h => h) (Or.inl ⟨by rfl, ?_⟩) hHeld ?_
    rotate_left
    · intro w' hS'
      (try dsimp only at hS')
      go_simp
      try with_reducible rfl
    try simp only [Act.put, List.setIfInBounds_toArray, List.set_cons_zero, List.set_cons_succ]
    refine wpAnyH_take (i := 22) (oi := ⟨some 117, _, _, _, _, _⟩) (v := ?_) rfl (by kernel_rfl) (by kernel_rfl) (by kernel_rfl) (fun _ _ _ h => h) (Or.inl ⟨by rfl, ?_⟩) hHeld ?_
    rotate_left
    · intro w' hS'
      (try dsimp only at hS')
      go_simp
      try with_reducible rfl
    try simp only [Act.put, List.setIfInBounds_toArray, List.set_cons_zero, List.set_cons_succ]
    refine wpAnyH_take (i := 23) (oi := ⟨some 118, _, _, _, _, _⟩) (v := ?_) rfl (by kernel_rfl) (by kernel_rfl) (by kernel_rfl) (fun _ _ _ h => h) (Or.inl ⟨by rfl, ?_⟩) hHeld ?_
    rotate_left
    · intro w' hS'
      (try dsimp only at hS')
      go_simp
      try with_reducible rfl
    try simp only [Act.put, List.setIfInBounds_toArray, List.set_cons_zero, List.set_cons_succ]
    refine wpAnyH_take (i := 24) (oi := ⟨some 119, _, _, _, _, _⟩) rfl (by kernel_rfl) (by kernel_rfl) (by kernel_rfl) (fun _ _ _ h => h) (yieldsIf_load_mid rfl 108 (.tmp 118) rfl ob (oo + k * 18) rfl (objC xl) _ (fun w hw => hw.2.2.2.1) Try.underlying108 rfl (by rw [objC, List.length_map, H18.out]; kernel_rfl)) hHeld ?_
    try simp only [Act.put, List.setIfInBounds_toArray, List.set_cons_zero, List.set_cons_succ]
    refine wpAnyH_take (i := 25) (oi := ⟨some 120, _, _, _, _, _⟩) rfl (by kernel_rfl) (by kernel_rfl) (by kernel_rfl) (fun _ _ _ h => h) (yieldsIf_load_mid rfl 108 (.tmp 10) rfl wb.heap.size 0 rfl (objC (madeL e)) _ (fun w hw => hw.2.2.2.2) Try.underlying108 rfl (by rw [objC, List.length_map]; exact Try.sizeObj)) hHeld ?_
    try simp only [Act.put, List.setIfInBounds_toArray, List.set_cons_zero, List.set_cons_succ]
    refine wpAnyH_take (i := 26) (oi := ⟨some 121, _, _, _, _, _⟩) (v := ?_) rfl (by kernel_rfl) (by kernel_rfl) (by kernel_rfl) (fun _ _ _ h => h) (Or.inl ⟨by rfl, ?_⟩) hHeld ?_
    rotate_left
    · intro w' hS'
      (try dsimp only at hS')
      go_simp
      try with_reducible rfl
    try simp only [Act.put, List.setIfInBounds_toArray, List.set_cons_zero, List.set_cons_succ]
    refine wpAnyH_take (i := 27) (oi := ⟨some 122, _, _, _, _, _⟩) (v := ?_) rfl (by kernel_rfl) (by kernel_rfl) (by kernel_rfl) (fun _ _ _ h => h) (Or.inl ⟨by rfl, ?_⟩) hHeld ?_
    rotate_left
    · intro w' hS'
      (try dsimp only at hS')
      go_simp
      try with_reducible rfl
    try simp only [Act.put, List.setIfInBounds_toArray, List.set_cons_zero, List.set_cons_succ]
    refine wpAnyH_done (by kernel_rfl) ?_ _
    clear hwm hwk q
    clear hHeld
    have hq0 : Below wd.heap.size wd wd.drew := (Below.refl _ _).drew
    have Hstq := Lib.hid (Hd.out.all hq0)
    have Ozq := Lib.hid (below_obj hq0 Ozd.out (obj_lt Ozd.out))
    have Hbq := Lib.hid (Hbd.out.trans (hq0.mono Hbd.out.size))
    have hwq := hq0.size
    generalize wd.drew = wq at *
    go_wp2_with (refine wpList_store_whole rfl 79 (.tmp 4) (.tmp 123) rfl (w.heap.size + 1 + 1) rfl 79 zSt zSt rfl Ozq.out Try.sizeSt rfl (zSt_O 0 w).c.one ?_; intro wz hobj hupdz)
    refine bodyPost_ret (results_cell_slot rfl _ wz (w.heap.size + 1 + 1) 79 zSt (0, 0) _ rfl hobj Try.underlying79 rfl Try.sizeSt) rfl ?_
    exact ⟨zSt, by rw [Hr2.out]; rfl, by rw [Hr2.out, if_neg (by decide)]; exact zSt_O _ _, (Hbq.out).trans (hupdz.below (by have := Hbb.out.size; have := (Hbq.out).size; omega) (fun k hk hb => by change _ = _ at hb; omega))⟩
  have q : ∀ w, (binOp .neq 108 (.agg (objC xl).toArray) (.agg (objC (madeL e)).toArray)).run Try.prog w = .ok (.bool false) w := fun w => (obj_neq w xl (madeL e) H18.out rfl).trans (by simp [hxe])
  have Hr2 := Lib.hid (show r = 0 by rw [H_hr.out, Hrm2.out]; simp [hxe, hvk])
  clear hxe
  refine wp_region_held_drew (S := fun x => x.cell? ⟨wa.heap.size, 0, none⟩ = some (.slice (some ⟨ob, oo, none⟩) (k + 1) c0) ∧ x.cell? ⟨wa.heap.size, 11, none⟩ = some (.slice (some ⟨lb, lo, none⟩) (m + 1) c1) ∧ x.cell? ⟨lb, lo + m, none⟩ = some (.int .i64 v) ∧ x.rangeAt ob (oo + k * 18) (objC xl) ∧ x.rangeAt wb.heap.size 0 (objC (madeL e))) (by kernel_rfl) HT.out (fun hHeld => ?_)
  refine wpAnyH_take (i := 0) (oi := ⟨some 95, _, _, _, _, _⟩) (v := ?_) rfl (by kernel_rfl) (by kernel_rfl) (by kernel_rfl) (fun _ _ _ h => h) (Or.inl ⟨by rfl, ?_⟩) hHeld ?_
  rotate_left
  · intro w' hS'
    (try dsimp only at hS')
    go_simp
    try with_reducible rfl
  try simp only [Act.put, List.setIfInBounds_toArray, List.set_cons_zero, List.set_cons_succ]
  refine wpAnyH_take (i := 1) (oi := ⟨some 96, _, _, _, _, _⟩) (v := ?_) rfl (by kernel_rfl) (by kernel_rfl) (by kernel_rfl) (fun _ _ _ h => h) (Or.inl ⟨by rfl, ?_⟩) hHeld ?_
  rotate_left
  · intro w' hS'
    (try dsimp only at hS')
    go_simp
    try with_reducible rfl
  try simp only [Act.put, List.setIfInBounds_toArray, List.set_cons_zero, List.set_cons_succ]
  refine wpAnyH_take (i := 2) (oi := ⟨some 97, _, _, _, _, _⟩) (v := ?_) rfl (by kernel_rfl) (by kernel_rfl) (by kernel_rfl) (fun _ _ _ h => h) (Or.inl ⟨by rfl, ?_⟩) hHeld ?_
  rotate_left
  · intro w' hS'
    (try dsimp only at hS')
    go_simp
    try with_reducible rfl
  try simp only [Act.put, List.setIfInBounds_toArray, List.set_cons_zero, List.set_cons_succ]
  refine wpAnyH_take (i := 3) (oi := ⟨some 98, _, _, _, _, _⟩) (v := ?_) rfl (by kernel_rfl) (by kernel_rfl) (by kernel_rfl) (fun _ _ _ h => h) (Or.inl ⟨by rfl, ?_⟩) hHeld ?_
  rotate_left
  · intro w' hS'
    (try dsimp only at hS')
    go_simp
    try with_reducible rfl
  try simp only [Act.put, List.setIfInBounds_toArray, List.set_cons_zero, List.set_cons_succ]
  refine wpAnyH_take (i := 4) (oi := ⟨some 99, _, _, _, _, _⟩) (v := ?_) rfl (by kernel_rfl) (by kernel_rfl) (by kernel_rfl) (fun _ _ _ h => h) (Or.inl ⟨by rfl, ?_⟩) hHeld ?_
  rotate_left
  · intro w' hS'
    (try dsimp only at hS')
    go_simp
    try with_reducible rfl
  try simp only [Act.put, List.setIfInBounds_toArray, List.set_cons_zero, List.set_cons_succ]
  refine wpAnyH_take (i := 5) (oi := ⟨some 100, _, _, _, _, _⟩) (v := ?_) rfl (by kernel_rfl) (by kernel_rfl) (by kernel_rfl) (fun _ _ _ h => h) (Or.inl ⟨by rfl, ?_⟩) hHeld ?_
  rotate_left
  · intro w' hS'
    (try dsimp only at hS')
    go_simp
    try with_reducible rfl
  try simp only [Act.put, List.setIfInBounds_toArray, List.set_cons_zero, List.set_cons_succ]
  refine wpAnyH_take (i := 6) (oi := ⟨some 101, _, _, _, _, _⟩) (v := ?_) rfl (by kernel_rfl) (by kernel_rfl) (by kernel_rfl) (fun _ _ _ h => h) (Or.inl ⟨by rfl, ?_⟩) hHeld ?_
  rotate_left
  · intro w' hS'
    (try dsimp only at hS')
    go_simp
    try with_reducible rfl
  try simp only [Act.put, List.setIfInBounds_toArray, List.set_cons_zero, List.set_cons_succ]
  refine wpAnyH_take (i := 7) (oi := ⟨some 102, _, _, _, _, _⟩) (v := ?_) rfl (by kernel_rfl) (by kernel_rfl) (by kernel_rfl) (fun _ _ _ h => h) (Or.inl ⟨by rfl, ?_⟩) hHeld ?_
  rotate_left
  · intro w' hS'
    (try dsimp only at hS')
    go_simp
    try with_reducible rfl
  try simp only [Act.put, List.setIfInBounds_toArray, List.set_cons_zero, List.set_cons_succ]
  refine wpAnyH_take (i := 8) (oi := ⟨some 103, _, _, _, _, _⟩) (v := ?_) rfl (by kernel_rfl) (by kernel_rfl) (by kernel_rfl) (fun _ _ _ h => h) (Or.inl ⟨by rfl, ?_⟩) hHeld ?_
  rotate_left
  · intro w' hS'
    (try dsimp only at hS')
    go_simp
    try with_reducible rfl
  try simp only [Act.put, List.setIfInBounds_toArray, List.set_cons_zero, List.set_cons_succ]
  refine wpAnyH_take (i := 9) (oi := ⟨some 104, _, _, _, _, _⟩) (v := ?_) rfl (by kernel_rfl) (by kernel_rfl) (by kernel_rfl) (fun _ _ _ h => h) (Or.inl ⟨by rfl, ?_⟩) hHeld ?_
  rotate_left
  · intro w' hS'
    (try dsimp only at hS')
    go_simp
    try with_reducible rfl
  try simp only [Act.put, List.setIfInBounds_toArray, List.set_cons_zero, List.set_cons_succ]
  refine wpAnyH_take (i := 10) (oi := ⟨some 105, _, _, _, _, _⟩) (v := ?_) rfl (by kernel_rfl) (by kernel_rfl) (by kernel_rfl) (fun _ _ _ h => h) (Or.inl ⟨by rfl, ?_⟩) hHeld ?_
  rotate_left
  · intro w' hS'
    (try dsimp only at hS')
    go_simp
    try with_reducible rfl
  try simp only [Act.put, List.setIfInBounds_toArray, List.set_cons_zero, List.set_cons_succ]
  refine wpAnyH_take (i := 11) (oi := ⟨some 106, _, _, _, _, _⟩) (v := ?_) rfl (by kernel_rfl) (by kernel_rfl) (by kernel_rfl) (fun _ _ _ h => h) (Or.inl ⟨by rfl, ?_⟩) hHeld ?_
  rotate_left
  · intro w' hS'
    (try dsimp only at hS')
    go_simp
    try with_reducible rfl
  try simp only [Act.put, List.setIfInBounds_toArray, List.set_cons_zero, List.set_cons_succ]
  refine wpAnyH_take (i := 12) (oi := ⟨some 107, _, _, _, _, _⟩) (v := ?_) rfl (by kernel_rfl) (by kernel_rfl) (by kernel_rfl) (fun _ _ _ h => h) (Or.inl ⟨by rfl, ?_⟩) hHeld ?_
  rotate_left
  · intro w' hS'
    (try dsimp only at hS')
    go_simp
    try with_reducible rfl
  try simp only [Act.put, List.setIfInBounds_toArray, List.set_cons_zero, List.set_cons_succ]
  refine wpAnyH_take (i := 13) (oi := ⟨some 108, _, _, _, _, _⟩) (v := ?_) rfl (by kernel_rfl) (by kernel_rfl) (by kernel_rfl) (fun _ _ _ h => h) (Or.inl ⟨by rfl, ?_⟩) hHeld ?_
  rotate_left
  · intro w' hS'
    (try dsimp only at hS')
    go_simp
    try with_reducible rfl
  try simp only [Act.put, List.setIfInBounds_toArray, List.set_cons_zero, List.set_cons_succ]
  refine wpAnyH_take (i := 14) (oi := ⟨some 109, _, _, _, _, _⟩) (v := ?_) rfl (by kernel_rfl) (by kernel_rfl) (by kernel_rfl) (fun _ _ _ h => h) (Or.inl ⟨by rfl, ?_⟩) hHeld ?_
  rotate_left
  · intro w' hS'
    (try dsimp only at hS')
    go_simp
    try with_reducible rfl
  try simp only [Act.put, List.setIfInBounds_toArray, List.set_cons_zero, List.set_cons_succ]
  refine wpAnyH_take (i := 15) (oi := ⟨some 110, _, _, _, _, _⟩) (v := ?_) rfl (by kernel_rfl) (by kernel_rfl) (by kernel_rfl) (fun _ _ _ h => h) (Or.inl ⟨by rfl, ?_⟩) hHeld ?_
  rotate_left
  · intro w' hS'
    (try dsimp only at hS')
    go_simp
    try with_reducible rfl
  try simp only [Act.put, List.setIfInBounds_toArray, List.set_cons_zero, List.set_cons_succ]
  refine wpAnyH_take (i := 16) (oi := ⟨some 111, _, _, _, _, _⟩) (v := ?_) rfl (by kernel_rfl) (by kernel_rfl) (by kernel_rfl) (fun _ _ _ h => h) (Or.inl ⟨by rfl, ?_⟩) hHeld ?_
  rotate_left
  · intro w' hS'
    (try dsimp only at hS')
    go_simp
    try with_reducible rfl
  try simp only [Act.put, List.setIfInBounds_toArray, List.set_cons_zero, List.set_cons_succ]
  refine wpAnyH_take (i := 17) (oi := ⟨some 112, _, _, _, _, _⟩) (v := ?_) rfl (by kernel_rfl) (by kernel_rfl) (by kernel_rfl) (fun _ _ _ h => h) (Or.inl ⟨by rfl, ?_⟩) hHeld ?_
  rotate_left
  · intro w' hS'
    (try dsimp only at hS')
    go_simp
    try with_reducible rfl
  try simp only [Act.put, List.setIfInBounds_toArray, List.set_cons_zero, List.set_cons_succ]
  refine wpAnyH_take (i := 18) (oi := ⟨some 113, _, _, _, _, _⟩) (v := ?_) rfl (by kernel_rfl) (by kernel_rfl) (by kernel_rfl) (fun _ _ _ h => h) (Or.inl ⟨by rfl, ?_⟩) hHeld ?_
  rotate_left
  · intro w' hS'
    (try dsimp only at hS')
    go_simp
    try with_reducible rfl
  try simp only [Act.put, List.setIfInBounds_toArray, List.set_cons_zero, List.set_cons_succ]
  refine wpAnyH_take (i := 19) (oi := ⟨some 114, _, _, _, _, _⟩) (v := ?_) rfl (by kernel_rfl) (by kernel_rfl) (by kernel_rfl) (fun _ _ _ h => h) (Or.inl ⟨by rfl, ?_⟩) hHeld ?_
  rotate_left
  · intro w' hS'
    (try dsimp only at hS')
    go_simp
    try with_reducible rfl
  try simp only [Act.put, List.setIfInBounds_toArray, List.set_cons_zero, List.set_cons_succ]
  refine wpAnyH_take (i := 20) (oi := ⟨some 115, _, _, _, _, _⟩) (v := ?_) rfl (by kernel_rfl) (by kernel_rfl) (by kernel_rfl) (fun _ _ _ h => h) (Or.inl ⟨by rfl, ?_⟩) hHeld ?_
  rotate_left
  · intro w' hS'
    (try dsimp only at hS')
    go_simp
    try with_reducible rfl
  try simp only [Act.put, List.setIfInBounds_toArray, List.set_cons_zero, List.set_cons_succ]
  refine wpAnyH_take (i := 21) (oi := ⟨some 116, _, _, _, _, _⟩) (v := ?_) rfl (by kernel_rfl) (by kernel_rfl) (by kernel_rfl) (fun _ _ _ h => h) (Or.inl ⟨by rfl, ?_⟩) hHeld ?_
  rotate_left
  · intro w' hS'
    (try dsimp only at hS')
    go_simp
    try with_reducible rfl
  try simp only [Act.put, List.setIfInBounds_toArray, List.set_cons_zero, List.set_cons_succ]
  refine wpAnyH_take (i := 22) (oi := ⟨some 117, _, _, _, _, _⟩) (v := ?_) rfl (by kernel_rfl) (by kernel_rfl) (by kernel_rfl) (fun _ _ _ h => h) (Or.inl ⟨by rfl, ?_⟩) hHeld ?_
  rotate_left
  · intro w' hS'
    (try dsimp only at hS')
    go_simp
    try with_reducible rfl
  try simp only [Act.put, List.setIfInBounds_toArray, List.set_cons_zero, List.set_cons_succ]
  refine wpAnyH_take (i := 23) (oi := ⟨some 118, _, _, _, _, _⟩) (v := ?_) rfl (by kernel_rfl) (by kernel_rfl) (by kernel_rfl) (fun _ _ _ h => h) (Or.inl ⟨by rfl, ?_⟩) hHeld ?_
  rotate_left
  · intro w' hS'
    (try dsimp only at hS')
    go_simp
    try with_reducible rfl
  try simp only [Act.put, List.setIfInBounds_toArray, List.set_cons_zero, List.set_cons_succ]
  refine wpAnyH_take (i := 24) (oi := ⟨some 119, _, _, _, _, _⟩) rfl (by kernel_rfl) (by kernel_rfl) (by kernel_rfl) (fun _ _ _ h => h) (yieldsIf_load_mid rfl 108 (.tmp 118) rfl ob (oo + k * 18) rfl (objC xl) _ (fun w hw => hw.2.2.2.1) Try.underlying108 rfl (by rw [objC, List.length_map, H18.out]; kernel_rfl)) hHeld ?_
  try simp only [Act.put, List.setIfInBounds_toArray, List.set_cons_zero, List.set_cons_succ]
  refine wpAnyH_take (i := 25) (oi := ⟨some 120, _, _, _, _, _⟩) rfl (by kernel_rfl) (by kernel_rfl) (by kernel_rfl) (fun _ _ _ h => h) (yieldsIf_load_mid rfl 108 (.tmp 10) rfl wb.heap.size 0 rfl (objC (madeL e)) _ (fun w hw => hw.2.2.2.2) Try.underlying108 rfl (by rw [objC, List.length_map]; exact Try.sizeObj)) hHeld ?_
  try simp only [Act.put, List.setIfInBounds_toArray, List.set_cons_zero, List.set_cons_succ]
  refine wpAnyH_take (i := 26) (oi := ⟨some 121, _, _, _, _, _⟩) (v := ?_) rfl (by kernel_rfl) (by kernel_rfl) (by kernel_rfl) (fun _ _ _ h => h) (Or.inl ⟨by rfl, ?_⟩) hHeld ?_
  rotate_left
  · intro w' hS'
    (try dsimp only at hS')
    go_simp
    try with_reducible rfl
  try simp only [Act.put, List.setIfInBounds_toArray, List.set_cons_zero, List.set_cons_succ]
  refine wpAnyH_take (i := 27) (oi := ⟨some 122, _, _, _, _, _⟩) (v := ?_) rfl (by kernel_rfl) (by kernel_rfl) (by kernel_rfl) (fun _ _ _ h => h) (Or.inl ⟨by rfl, ?_⟩) hHeld ?_
  rotate_left
  · intro w' hS'
    (try dsimp only at hS')
    go_simp
    try with_reducible rfl
  try simp only [Act.put, List.setIfInBounds_toArray, List.set_cons_zero, List.set_cons_succ]
  refine wpAnyH_done (by kernel_rfl) ?_ _
  clear q
  have Hlm : Hid (m + 1 = (lst s 10).length) := Lib.hid (by rw [Hlst.out]; exact Hm.out)
  clear hHeld
  have hq0 : Below wd.heap.size wd wd.drew := (Below.refl _ _).drew
  have Hstq := Lib.hid (Hd.out.all hq0)
  have Ozq := Lib.hid (below_obj hq0 Ozd.out (obj_lt Ozd.out))
  have Hbq := Lib.hid (Hbd.out.trans (hq0.mono Hbd.out.size))
  have hwq := hq0.size
  have Rq := Lib.hid (Rd.out.all hq0)
  have Rlq := Lib.hid (Rl.out.all hq0)
  clear hwm hwk hvk' hq0
  generalize wd.drew = wq at *
  have kc0 : wq.cell? ⟨wa.heap.size, 0, none⟩ = some (.slice (some ⟨ob, oo, none⟩) (k + 1) c0) := HT.out.1
  have kc11 : wq.cell? ⟨wa.heap.size, 11, none⟩ = some (.slice (some ⟨lb, lo, none⟩) (m + 1) c1) := HT.out.2.1
  have kf0 := obj_free Hstq.out.obj 0
  have kf11 := obj_free Hstq.out.obj 11
  have H0q : Hid (cz[0]? = some (.slice (some ⟨ob, oo, none⟩) (lenOf s 0) c0)) := Lib.hid (by rw [show lenOf s 0 = k + 1 from Hn.out]; exact H0.out)
  have H11q : Hid (cz[11]? = some (.slice (some ⟨lb, lo, none⟩) (lenOf s 11) c1)) := Lib.hid H11x.out
  have hoG := Hstq.out.off 0 _ _ (by decide) H0q.out _ rfl
  have hlG := Hstq.out.off 11 _ _ (by decide) H11q.out _ rfl
  have hoB := Hstq.out.own.fresh 0 _ _ (by decide) H0q.out _ rfl
  have hlB := Hstq.out.own.fresh 11 _ _ (by decide) H11q.out _ rfl
  have hs1 := Hstq.out.setSlG (s' := ⟨s.o.take k, s.l, s.p⟩) 0 (by decide) (a := some ⟨ob, oo, none⟩) (n := k) (c := c0) (by simp [lenOf, Hn.out]) (by rw [show rowOf ⟨s.o.take k, s.l, s.p⟩ 0 = objs (s.o.take k) from rfl, ← objs_take s.o Ok.out.o k (by have := Hn.out; omega)]; exact Rq.out.takeC k (by omega)) (fun ad he => by obtain rfl := Option.some.inj he; exact ⟨hoB, hoG⟩) (fun j b m' d hj hji he x y hx hy => Hstq.out.own.dis 0 j _ b _ _ _ _ (by decide) hj (Ne.symm hji) H0q.out he x y hx hy) (fun j hj hj2 => ⟨by simp [lenOf, hj2], by simp [rowOf, hj2]⟩) rfl
  have Hs1 := Lib.hid hs1
  have hs2 := Hs1.out.setSlG (s' := rmS s) 11 (by decide) (a := some ⟨lb, lo, none⟩) (n := m) (c := c1) (lenOf_rm s Ok.out.l m Hlm.out.symm).symm (by rw [rowOf_rm s Ok.out.l m Hlm.out.symm, Hlst.out]; exact (Rlq.out.takeC m (by omega)).setCell _ (fun ad he => by obtain rfl := Option.some.inj he; exact hlG) _) (fun ad he => by obtain rfl := Option.some.inj he; exact ⟨hlB, hlG⟩) (fun j b m' d hj hji he x y hx hy => by
      by_cases hj0 : j = 0
      · subst hj0
        rw [Array.getElem?_setIfInBounds_self_of_lt (by rw [Hstq.out.own.size]; decide)] at he
        simp at he
        exact Hstq.out.own.dis 11 0 _ _ _ _ _ _ (by decide) (by decide) (by decide) H11q.out H0q.out x y hx (he.1.trans hy)
      · rw [Array.getElem?_setIfInBounds_ne (Ne.symm hj0)] at he
        exact Hstq.out.own.dis 11 j _ b _ _ _ _ (by decide) hj (Ne.symm hji) H11q.out he x y hx hy) (fun j hj hj2 => by rw [rm_eq s k m Hn.out Hlm.out.symm]; exact set_other ⟨s.o.take k, s.l, s.p⟩ 10 _ j hj2) rfl
  rw [← H_ht.out] at hs2
  have Hst3 := Lib.hid hs2
  have Oz3 := Lib.hid (show ((wq.setCell ⟨wa.heap.size, 0, none⟩ (.slice (some ⟨ob, oo, none⟩) k c0)).setCell ⟨wa.heap.size, 11, none⟩ (.slice (some ⟨lb, lo, none⟩) m c1)).heap[w.heap.size + 1 + 1]? = _ from setCell_obj (p := ⟨wa.heap.size, 11, none⟩) (setCell_obj (p := ⟨wa.heap.size, 0, none⟩) Ozq.out (by show w.heap.size + 1 + 1 ≠ wa.heap.size; omega)) (by show w.heap.size + 1 + 1 ≠ wa.heap.size; omega))
  have Hb3 := Lib.hid (show Below w.heap.size w ((wq.setCell ⟨wa.heap.size, 0, none⟩ (.slice (some ⟨ob, oo, none⟩) k c0)).setCell ⟨wa.heap.size, 11, none⟩ (.slice (some ⟨lb, lo, none⟩) m c1)) from (Hbq.out.setCell (p := ⟨wa.heap.size, 0, none⟩) (by show w.heap.size ≤ wa.heap.size; omega) _).setCell (p := ⟨wa.heap.size, 11, none⟩) (by show w.heap.size ≤ wa.heap.size; omega) _)
  have hkc : k ≤ c0 := by omega
  have hmc : m ≤ c1 := by omega
  clear hs1 hs2 hoG hlG hoB hlB
  have hcd := Hst3.out.own.size
  go_wp2_with (first | (refine wpList_load_whole rfl 79 (.tmp 7) rfl wa.heap.size rfl 79 _ (0, 0) Hst3.out.obj _ Try.underlying79 rfl (by rw [hcd]; exact Try.sizeSt) ?_) | (refine wpList_store_whole rfl 79 (.tmp 4) (.tmp 266) rfl (w.heap.size + 1 + 1) rfl 79 zSt _ rfl Oz3.out (by rw [hcd]; exact Try.sizeSt) (by rw [hcd]; rfl) Hst3.out.own.c.one ?_; intro wz hobj hupdz))
  refine bodyPost_ret (results_cell_slot rfl _ wz (w.heap.size + 1 + 1) 79 _ (0, 0) _ rfl hobj Try.underlying79 rfl (by rw [hcd]; exact Try.sizeSt)) rfl ?_
  exact ⟨_, by rw [Hr2.out]; rfl, by rw [Hr2.out, if_pos rfl]; exact (Hst3.out.own.upd hupdz (fun i a c hi he ad hd hb => by have h9 := Hst3.out.own.fresh i a c hi he ad hd; change _ = _ at hb; omega)).mono (by omega), (Hb3.out).trans (hupdz.below (by have := (Hb3.out).size; omega) (fun k hk hb => by change _ = _ at hb; omega))⟩
end Go.Proofs.Ytpbocficffbcbaa
