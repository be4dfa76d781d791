import Derived.Test.YtpbocficffbcbaaDoA
import Derived.Test.YtpbocficffbcbaaEqI
namespace Go.Proofs.Ytpbocficffbcbaa
open Go Go.RowKit
set_option linter.unusedVariables false

theorem RowAt.takeN {w : World} {e : TypeId} {sz n cap : Nat} {a : Option Addr} {xs : List Value} (h : RowAt w e sz a n cap xs) (k : Nat) (hk : k ≤ n) : RowAt w e sz a k k (xs.take (k * sz)) where
  len := by
    have := h.len
    rw [List.length_take, this]
    exact Nat.min_eq_left (Nat.mul_le_mul_right _ hk)
  le := Nat.le_refl _
  max := by have := h.max; have := h.le; omega
  nil := fun hn => by have := h.nil hn; have := h.le; omega
  one := fun u hu => h.one u (List.mem_of_mem_take hu)
  row := fun ad he => by
    obtain ⟨hsp, cur, hg, hfit, ht⟩ := h.row ad he
    refine ⟨hsp, cur, hg, Nat.le_trans (Nat.add_le_add_left (Nat.mul_le_mul_right _ (Nat.le_trans hk h.le)) _) hfit, ?_⟩
    rw [← ht, List.take_take, Nat.min_eq_left (Nat.mul_le_mul_right _ hk)]
theorem objs_take : ∀ (l : List (List Int)), (∀ x ∈ l, x.length = 18) → ∀ (k : Nat), k ≤ l.length → (objs l).take (k * 18) = objs (l.take k)
  | _, _, 0, _ => by simp
  | [], _, k + 1, hk => by simp at hk
  | a :: l, h, k + 1, hk => by
    have ha : (objC a).length = 18 := by rw [objC, List.length_map]; exact h a (by simp)
    show (objC a ++ objs l).take ((k + 1) * 18) = objC a ++ objs (l.take k)
    rw [List.take_append, List.take_of_length_le (by omega), ha, show (k + 1) * 18 - 18 = k * 18 by omega, objs_take l (fun x hx => h x (by simp [hx])) k (by simpa using hk)]
theorem rm_eq (s : St) (k m : Nat) (hn : s.o.length = k + 1) (hm : (lst s 10).length = m + 1) : rmS s = ⟨s.o.take k, s.l.set 10 ((lst s 10).take m), s.p⟩ := by
  simp only [rmS, hn, hm, Nat.add_sub_cancel]
theorem lenOf_rm (s : St) (hl : s.l.length = 11) (m : Nat) (hm : (lst s 10).length = m + 1) : lenOf (rmS s) 11 = m := by
  simp only [rmS, lenOf, getD_set, hm, Nat.add_sub_cancel]
  rw [if_neg (by decide), if_pos ⟨by decide, by omega⟩, List.length_take, hm]
  omega
theorem rowOf_rm (s : St) (hl : s.l.length = 11) (m : Nat) (hm : (lst s 10).length = m + 1) : rowOf (rmS s) 11 = ((lst s 10).map (Value.int .i64)).take (m * 1) := by
  simp only [rmS, rowOf, getD_set, hm, Nat.add_sub_cancel, Nat.mul_one]
  rw [if_neg (by decide), if_pos ⟨by decide, by omega⟩, List.map_take]

def topV (l : List Int) : Int := l.getD (l.length - 1) 0
set_option maxRecDepth 100000 in
set_option maxHeartbeats 400000 in
theorem top10 (w : World) (cs : Array Value) (s : St) (h : StC w cs s) (v : Int) (b : Bool) (hv : v = topV (lst s 10)) (hb : b = decide (0 < (lst s 10).length)) :
    Calls Try.prog 118 #[.agg cs, .int .i64 10] w (fun x w' => x = .returned (.tuple #[.int .i64 v, .bool b]) ∧ Below w.heap.size w w') := by
  have b0 : Below w.heap.size w (w.alloc (.cells cs 79)) := ((Below.refl _ w).alloc (Nat.le_refl _) _)
  have ob := alloc_new w (.cells cs 79)
  obtain ⟨a1, c1, e1, r1⟩ := h.sl 11 (by decide)
  have e2 : cs[11]? = some (.slice a1 (lst s 10).length c1) := e1
  have r2 : SlAt w 1 a1 (lst s 10).length c1 ((lst s 10).map (.int .i64)) := r1
  have k1 := (obj_cell ob 11).trans e2
  have hle := r2.le
  have hmx := r2.max
  unfold maxLen at hmx
  generalize lst s 10 = l at *
  clear h e1 e2 ob r1
  have B0 := Lib.hid b0
  clear b0
  rcases Nat.eq_zero_or_pos l.length with h0 | h0
  · have hl : l = [] := List.eq_nil_of_length_eq_zero h0
    subst hl
    subst hv hb
    simp only [List.length_nil] at k1
    have Hr := Lib.hid r2
    clear r2 h0
    go_enter Try.func118, Try.ntmps118
    go_wp2_with fail
    go_ret2
    exact ⟨rfl, B0.out⟩
  · obtain ⟨bb, oo, rfl, hbb, hcc⟩ := (r2.all B0.out).nonempty h0
    have hb1 : b = true := by rw [hb]; simpa using h0
    have hx := hcc (l.length - 1) _ (map_int_cell (by omega))
    rw [show l.getD (l.length - 1) 0 = v from hv.symm] at hx
    obtain ⟨k, hk⟩ : ∃ k, l.length = k + 1 := ⟨l.length - 1, by omega⟩
    rw [hk] at k1 hx hle
    rw [Nat.add_sub_cancel] at hx
    subst hb1
    clear hcc r2 hb h0 hv hk
    go_enter Try.func118, Try.ntmps118
    go_wp2_with fail
    go_quiet (fail)
    go_wp2_with fail
    go_ret2
    exact ⟨rfl, B0.out.trans (((Q.refl _).drewN _).below _)⟩
-- REMOVE
set_option maxRecDepth 100000 in
set_option maxHeartbeats 800000 in
theorem removeNone (w : World) (B g : Nat) (cs : Array Value) (s : St) (h : StAt w B g s cs) (ok : StOk s) (hB : B ≤ w.heap.size) (e : Ev) (hn : s.o.length = 0) (r : Int) (hr : r = if rmB s e then 0 else 20) :
    Calls Try.prog 96 #[.pointer (some ⟨g, 0, none⟩), evV e] w (DoTo w B g s (rmS s) r) := by
  have b0 : Below w.heap.size w (w.alloc (.cells (evA e) 64)) := ((Below.refl _ w).alloc (Nat.le_refl _) _)
  have hst := h.all b0
  obtain ⟨a0, c0, h0, r0, f0⟩ := hst.own.sz0
  have hn0 := r0.le
  have hm0 := r0.max
  unfold maxLen at hm0
  have k0 := (obj_cell hst.obj 0).trans h0
  have hg := obj_lt h.obj
  have hgz : g < (w.alloc (.cells (evA e) 64)).heap.size := by simp; omega
  have oe := alloc_new w (.cells (evA e) 64)
  have hz0 : (w.alloc (.cells (evA e) 64)).heap.size = w.heap.size + 1 := by simp
  obtain ⟨v, hv⟩ : ∃ v, v = topV (lst s 10) := ⟨_, rfl⟩
  obtain ⟨b, hb⟩ : ∃ b, b = decide (0 < (lst s 10).length) := ⟨_, rfl⟩
  have hr20 : r = 20 := by rw [hr, show rmB s e = false by simp [rmB, hn]]; rfl
  have Hr20 := Lib.hid hr20
  clear hr20
  rw [hn] at k0 hn0
  clear hn
  have Hst := Lib.hid hst
  have R0 := Lib.hid r0
  have F0 := Lib.hid f0
  have B0 := Lib.hid b0
  have Ok := Lib.hid ok
  have Hr := Lib.hid hr
  have Hv := Lib.hid hv
  have Hb := Lib.hid hb
  have Hz0 := Lib.hid hz0
  have Oe := Lib.hid oe
  clear h0 r0 f0 h hst b0 ok hr hv hb hz0 oe
  have hcs := Hst.out.own.size
  go_enter Try.func96, Try.ntmps96
  go_wp2_with (refine wpList_load_whole rfl 79 (.tmp 17) rfl g rfl 79 cs (0, 0) Hst.out.obj _ Try.underlying79 rfl (by rw [hcs]; exact Try.sizeSt) ?_)
  refine (top10 _ cs s Hst.out.own.c v b Hv.out Hb.out).mono ?_
  rintro x w1 ⟨rfl, hb1⟩
  generalize (w.alloc (.cells (evA e) 64)) = wa at *
  have Hb1 := Lib.hid hb1
  have Hst1 := Lib.hid (Hst.out.all hb1)
  have oe1 := below_obj hb1 Oe.out (by have := Hz0.out; omega)
  have hg1 : g < w1.heap.size := Nat.lt_of_lt_of_le hgz hb1.size
  have k1 := (hb1.cell (p := ⟨g, 0, none⟩) hgz).trans k0
  have hx : Below w1.heap.size w1 w1.drew := (Below.refl _ _).drew
  have HT := Lib.hid (fun (x : World) (hb : Below w1.heap.size w1 x) => (⟨(hb.cell (p := ⟨g, 0, none⟩) hg1).trans k1, EvCells.of (below_obj hb oe1 (obj_lt oe1))⟩ : x.cell? ⟨g, 0, none⟩ = some (.slice a0 0 c0) ∧ EvCells x w.heap.size e))
  clear hb1 k0 k1 oe1
  go_wp2_with fail
  refine wp_region_held_drew (S := fun x => x.cell? ⟨g, 0, none⟩ = some (.slice a0 0 c0) ∧ x.cell? ⟨w.heap.size, 0, none⟩ = some (.int .i64 e.k) ∧ x.cell? ⟨w.heap.size, 1, none⟩ = some (.int .i64 e.a) ∧ x.cell? ⟨w.heap.size, 2, none⟩ = some (.int .i64 e.b) ∧ x.cell? ⟨w.heap.size, 3, none⟩ = some (.int .i64 e.c) ∧ x.cell? ⟨w.heap.size, 4, none⟩ = some (.int .i64 e.d) ∧ x.cell? ⟨w.heap.size, 5, none⟩ = some (.int .i64 e.e)) (by kernel_rfl) (HT.out _ hx) (fun hHeld => ?_)
  refine wpAnyH_take (i := 0) (oi := ⟨some 22, _, _, _, _, _⟩) (v := ?_) rfl (by kernel_rfl) (by kernel_rfl) (by kernel_rfl) (fun _ _ _ h => h) (Or.inl ⟨by rfl, ?_⟩) hHeld ?_
  rotate_left
  · intro w' hS'
    (try dsimp only at hS')
    go_simp
    try with_reducible rfl
  try simp only [Act.put, List.setIfInBounds_toArray, List.set_cons_zero, List.set_cons_succ]
  refine wpAnyH_take (i := 1) (oi := ⟨some 23, _, _, _, _, _⟩) (v := ?_) rfl (by kernel_rfl) (by kernel_rfl) (by kernel_rfl) (fun _ _ _ h => h) (Or.inl ⟨by rfl, ?_⟩) hHeld ?_
  rotate_left
  · intro w' hS'
    (try dsimp only at hS')
    go_simp
    try with_reducible rfl
  try simp only [Act.put, List.setIfInBounds_toArray, List.set_cons_zero, List.set_cons_succ]
  refine wpAnyH_take (i := 2) (oi := ⟨some 24, _, _, _, _, _⟩) (v := ?_) rfl (by kernel_rfl) (by kernel_rfl) (by kernel_rfl) (fun _ _ _ h => h) (Or.inl ⟨by rfl, ?_⟩) hHeld ?_
  rotate_left
  · intro w' hS'
    (try dsimp only at hS')
    go_simp
    try with_reducible rfl
  try simp only [Act.put, List.setIfInBounds_toArray, List.set_cons_zero, List.set_cons_succ]
  refine wpAnyH_take (i := 3) (oi := ⟨some 25, _, _, _, _, _⟩) (v := undef) rfl (by kernel_rfl) (by kernel_rfl) (by kernel_rfl) (fun _ _ _ h => h) (Or.inr ⟨by rfl, rfl⟩) hHeld ?_
  try simp only [Act.put, List.setIfInBounds_toArray, List.set_cons_zero, List.set_cons_succ]
  refine wpAnyH_take (i := 4) (oi := ⟨some 26, _, _, _, _, _⟩) (v := undef) rfl (by kernel_rfl) (by kernel_rfl) (by kernel_rfl) (fun _ _ _ h => h) (Or.inr ⟨by rfl, rfl⟩) hHeld ?_
  try simp only [Act.put, List.setIfInBounds_toArray, List.set_cons_zero, List.set_cons_succ]
  refine wpAnyH_take (i := 5) (oi := ⟨some 27, _, _, _, _, _⟩) (v := ?_) rfl (by kernel_rfl) (by kernel_rfl) (by kernel_rfl) (fun _ _ _ h => h) (Or.inl ⟨by rfl, ?_⟩) hHeld ?_
  rotate_left
  · intro w' hS'
    (try dsimp only at hS')
    go_simp
    try with_reducible rfl
  try simp only [Act.put, List.setIfInBounds_toArray, List.set_cons_zero, List.set_cons_succ]
  refine wpAnyH_take (i := 6) (oi := ⟨some 28, _, _, _, _, _⟩) (v := ?_) rfl (by kernel_rfl) (by kernel_rfl) (by kernel_rfl) (fun _ _ _ h => h) (Or.inl ⟨by rfl, ?_⟩) hHeld ?_
  rotate_left
  · intro w' hS'
    (try dsimp only at hS')
    go_simp
    try with_reducible rfl
  try simp only [Act.put, List.setIfInBounds_toArray, List.set_cons_zero, List.set_cons_succ]
  refine wpAnyH_take (i := 7) (oi := ⟨some 29, _, _, _, _, _⟩) (v := undef) rfl (by kernel_rfl) (by kernel_rfl) (by kernel_rfl) (fun _ _ _ h => h) (Or.inr ⟨by rfl, rfl⟩) hHeld ?_
  try simp only [Act.put, List.setIfInBounds_toArray, List.set_cons_zero, List.set_cons_succ]
  refine wpAnyH_take (i := 8) (oi := ⟨some 30, _, _, _, _, _⟩) (v := undef) rfl (by kernel_rfl) (by kernel_rfl) (by kernel_rfl) (fun _ _ _ h => h) (Or.inr ⟨by rfl, rfl⟩) hHeld ?_
  try simp only [Act.put, List.setIfInBounds_toArray, List.set_cons_zero, List.set_cons_succ]
  refine wpAnyH_take (i := 9) (oi := ⟨some 31, _, _, _, _, _⟩) (v := undef) rfl (by kernel_rfl) (by kernel_rfl) (by kernel_rfl) (fun _ _ _ h => h) (Or.inr ⟨by rfl, rfl⟩) hHeld ?_
  try simp only [Act.put, List.setIfInBounds_toArray, List.set_cons_zero, List.set_cons_succ]
  refine wpAnyH_take (i := 10) (oi := ⟨some 32, _, _, _, _, _⟩) (v := ?_) rfl (by kernel_rfl) (by kernel_rfl) (by kernel_rfl) (fun _ _ _ h => h) (Or.inl ⟨by rfl, ?_⟩) hHeld ?_
  rotate_left
  · intro w' hS'
    (try dsimp only at hS')
    go_simp
    try with_reducible rfl
  try simp only [Act.put, List.setIfInBounds_toArray, List.set_cons_zero, List.set_cons_succ]
  refine wpAnyH_take (i := 11) (oi := ⟨some 33, _, _, _, _, _⟩) (v := ?_) rfl (by kernel_rfl) (by kernel_rfl) (by kernel_rfl) (fun _ _ _ h => h) (Or.inl ⟨by rfl, ?_⟩) hHeld ?_
  rotate_left
  · intro w' hS'
    (try dsimp only at hS')
    go_simp
    try with_reducible rfl
  try simp only [Act.put, List.setIfInBounds_toArray, List.set_cons_zero, List.set_cons_succ]
  refine wpAnyH_take (i := 12) (oi := ⟨some 34, _, _, _, _, _⟩) (v := undef) rfl (by kernel_rfl) (by kernel_rfl) (by kernel_rfl) (fun _ _ _ h => h) (Or.inr ⟨by rfl, rfl⟩) hHeld ?_
  try simp only [Act.put, List.setIfInBounds_toArray, List.set_cons_zero, List.set_cons_succ]
  refine wpAnyH_take (i := 13) (oi := ⟨some 35, _, _, _, _, _⟩) (v := undef) rfl (by kernel_rfl) (by kernel_rfl) (by kernel_rfl) (fun _ _ _ h => h) (Or.inr ⟨by rfl, rfl⟩) hHeld ?_
  try simp only [Act.put, List.setIfInBounds_toArray, List.set_cons_zero, List.set_cons_succ]
  refine wpAnyH_take (i := 14) (oi := ⟨some 36, _, _, _, _, _⟩) (v := undef) rfl (by kernel_rfl) (by kernel_rfl) (by kernel_rfl) (fun _ _ _ h => h) (Or.inr ⟨by rfl, rfl⟩) hHeld ?_
  try simp only [Act.put, List.setIfInBounds_toArray, List.set_cons_zero, List.set_cons_succ]
  refine wpAnyH_take (i := 15) (oi := ⟨some 37, _, _, _, _, _⟩) (v := undef) rfl (by kernel_rfl) (by kernel_rfl) (by kernel_rfl) (fun _ _ _ h => h) (Or.inr ⟨by rfl, rfl⟩) hHeld ?_
  try simp only [Act.put, List.setIfInBounds_toArray, List.set_cons_zero, List.set_cons_succ]
  refine wpAnyH_take (i := 16) (oi := ⟨some 38, _, _, _, _, _⟩) (v := undef) rfl (by kernel_rfl) (by kernel_rfl) (by kernel_rfl) (fun _ _ _ h => h) (Or.inr ⟨by rfl, rfl⟩) hHeld ?_
  try simp only [Act.put, List.setIfInBounds_toArray, List.set_cons_zero, List.set_cons_succ]
  refine wpAnyH_take (i := 17) (oi := ⟨some 39, _, _, _, _, _⟩) (v := undef) rfl (by kernel_rfl) (by kernel_rfl) (by kernel_rfl) (fun _ _ _ h => h) (Or.inr ⟨by rfl, rfl⟩) hHeld ?_
  try simp only [Act.put, List.setIfInBounds_toArray, List.set_cons_zero, List.set_cons_succ]
  refine wpAnyH_take (i := 18) (oi := ⟨some 40, _, _, _, _, _⟩) (v := undef) rfl (by kernel_rfl) (by kernel_rfl) (by kernel_rfl) (fun _ _ _ h => h) (Or.inr ⟨by rfl, rfl⟩) hHeld ?_
  try simp only [Act.put, List.setIfInBounds_toArray, List.set_cons_zero, List.set_cons_succ]
  refine wpAnyH_take (i := 19) (oi := ⟨some 41, _, _, _, _, _⟩) (v := undef) rfl (by kernel_rfl) (by kernel_rfl) (by kernel_rfl) (fun _ _ _ h => h) (Or.inr ⟨by rfl, rfl⟩) hHeld ?_
  try simp only [Act.put, List.setIfInBounds_toArray, List.set_cons_zero, List.set_cons_succ]
  refine wpAnyH_take (i := 20) (oi := ⟨some 42, _, _, _, _, _⟩) (v := undef) rfl (by kernel_rfl) (by kernel_rfl) (by kernel_rfl) (fun _ _ _ h => h) (Or.inr ⟨by rfl, rfl⟩) hHeld ?_
  try simp only [Act.put, List.setIfInBounds_toArray, List.set_cons_zero, List.set_cons_succ]
  refine wpAnyH_take (i := 21) (oi := ⟨some 43, _, _, _, _, _⟩) (v := undef) rfl (by kernel_rfl) (by kernel_rfl) (by kernel_rfl) (fun _ _ _ h => h) (Or.inr ⟨by rfl, rfl⟩) hHeld ?_
  try simp only [Act.put, List.setIfInBounds_toArray, List.set_cons_zero, List.set_cons_succ]
  refine wpAnyH_take (i := 22) (oi := ⟨some 44, _, _, _, _, _⟩) (v := ?_) rfl (by kernel_rfl) (by kernel_rfl) (by kernel_rfl) (fun _ _ _ h => h) (Or.inl ⟨by rfl, ?_⟩) hHeld ?_
  rotate_left
  · intro w' hS'
    (try dsimp only at hS')
    go_simp
    try with_reducible rfl
  try simp only [Act.put, List.setIfInBounds_toArray, List.set_cons_zero, List.set_cons_succ]
  refine wpAnyH_done (by kernel_rfl) ?_ _
  go_wp2_with fail
  go_ret
  exact ⟨ret_err (a := 20) Hr20.out.symm, (Upd.of_below B0.out).trans (Upd.of_below (S := fun k => k = g) (Hb1.out.trans (hx.mono Hb1.out.size))) (fun _ _ h => h), _, by rw [Hr20.out, if_neg (by decide)]; exact Hst1.out.all hx⟩
set_option maxRecDepth 100000 in
set_option maxHeartbeats 800000 in
theorem removeSome (w : World) (B g : Nat) (cs : Array Value) (s : St) (h : StAt w B g s cs) (ok : StOk s) (hB : B ≤ w.heap.size) (e : Ev) (k : Nat) (hn : s.o.length = k + 1) (r : Int) (hr : r = if rmB s e then 0 else 20) :
    Calls Try.prog 96 #[.pointer (some ⟨g, 0, none⟩), evV e] w (DoTo w B g s (rmS s) r) := by
  have b0 : Below w.heap.size w (w.alloc (.cells (evA e) 64)) := ((Below.refl _ w).alloc (Nat.le_refl _) _)
  have hst := h.all b0
  obtain ⟨a0, c0, h0, r0, f0⟩ := hst.own.sz0
  have hn0 := r0.le
  have hm0 := r0.max
  unfold maxLen at hm0
  have k0 := (obj_cell hst.obj 0).trans h0
  have hg := obj_lt h.obj
  have hgz : g < (w.alloc (.cells (evA e) 64)).heap.size := by simp; omega
  have oe := alloc_new w (.cells (evA e) 64)
  have hz0 : (w.alloc (.cells (evA e) 64)).heap.size = w.heap.size + 1 := by simp
  obtain ⟨v, hv⟩ : ∃ v, v = topV (lst s 10) := ⟨_, rfl⟩
  obtain ⟨b, hb⟩ : ∃ b, b = decide (0 < (lst s 10).length) := ⟨_, rfl⟩
  obtain ⟨bo, oo, rfl, hbo, rg⟩ := obj_at r0.sl ok.o rfl (k := k) (by omega)
  obtain ⟨xl, hxl⟩ : ∃ xl, xl = s.o.getD k [] := ⟨_, rfl⟩
  have hx18 : xl.length = 18 := by rw [hxl]; exact obj_len ok (by omega)
  rw [← hxl] at rg
  rw [hn] at k0 hn0
  have hrm : rmB s e = (b && (decide (v = (k : Int)) && decide (xl = madeL e))) := by
    simp only [rmB, hn, Nat.add_sub_cancel]
    rw [hb, hv, hxl, show ((k + 1 : Nat) : Int) - 1 = k by omega]
    simp [topV]
  have Hrm := Lib.hid hrm
  have Hn := Lib.hid hn
  have Rg := Lib.hid rg
  have Hx18 := Lib.hid hx18
  have Hxl := Lib.hid hxl
  have Hc0 := Lib.hid (show cs[0]? = some (.slice (some ⟨bo, oo, none⟩) s.o.length c0) from h0)
  clear hrm hn rg hx18 hxl
  have Hst := Lib.hid hst
  have R0 := Lib.hid r0
  have F0 := Lib.hid f0
  have B0 := Lib.hid b0
  have Ok := Lib.hid ok
  have Hr := Lib.hid hr
  have Hv := Lib.hid hv
  have Hb := Lib.hid hb
  have Hz0 := Lib.hid hz0
  have Oe := Lib.hid oe
  clear h0 r0 f0 h hst b0 ok hr hv hb hz0 oe
  have hcs := Hst.out.own.size
  go_enter Try.func96, Try.ntmps96
  go_wp2_with (refine wpList_load_whole rfl 79 (.tmp 17) rfl g rfl 79 cs (0, 0) Hst.out.obj _ Try.underlying79 rfl (by rw [hcs]; exact Try.sizeSt) ?_)
  refine (top10 _ cs s Hst.out.own.c v b Hv.out Hb.out).mono ?_
  rintro x w1 ⟨rfl, hb1⟩
  generalize (w.alloc (.cells (evA e) 64)) = wa at *
  have Hb1 := Lib.hid hb1
  have Hst1 := Lib.hid (Hst.out.all hb1)
  have oe1 := below_obj hb1 Oe.out (by have := Hz0.out; omega)
  have hg1 : g < w1.heap.size := Nat.lt_of_lt_of_le hgz hb1.size
  have k1 := (hb1.cell (p := ⟨g, 0, none⟩) hgz).trans k0
  have hx : Below w1.heap.size w1 w1.drew := (Below.refl _ _).drew
  have rg1 : w1.rangeAt bo (oo + k * 18) (objC xl) := fun j u hu => (hb1.cell (p := ⟨bo, oo + k * 18 + j, none⟩) hbo).trans (Rg.out j u hu)
  have hbo1 : bo < w1.heap.size := Nat.lt_of_lt_of_le hbo hb1.size
  have HT := Lib.hid (fun (x : World) (hb : Below w1.heap.size w1 x) => (⟨(hb.cell (p := ⟨g, 0, none⟩) hg1).trans k1, fun j u hu => (hb.cell (p := ⟨bo, oo + k * 18 + j, none⟩) hbo1).trans (rg1 j u hu), EvCells.of (below_obj hb oe1 (obj_lt oe1))⟩ : x.cell? ⟨g, 0, none⟩ = some (.slice (some ⟨bo, oo, none⟩) (k + 1) c0) ∧ x.rangeAt bo (oo + k * 18) (objC xl) ∧ EvCells x w.heap.size e))
  clear hb1 k0 k1 oe1 rg1
  go_wp2_with fail
  have hk1 : (k : Int) < (k : Int) + 1 := by omega
  cases b
  · have hb' : True := trivial
    have Hr20 := Lib.hid (show r = 20 by rw [Hr.out, Hrm.out]; simp [])
    refine wp_region_held_drew (S := fun x => x.cell? ⟨g, 0, none⟩ = some (.slice (some ⟨bo, oo, none⟩) (k + 1) c0) ∧ x.rangeAt bo (oo + k * 18) (objC xl) ∧ x.cell? ⟨w.heap.size, 0, none⟩ = some (.int .i64 e.k) ∧ x.cell? ⟨w.heap.size, 1, none⟩ = some (.int .i64 e.a) ∧ x.cell? ⟨w.heap.size, 2, none⟩ = some (.int .i64 e.b) ∧ x.cell? ⟨w.heap.size, 3, none⟩ = some (.int .i64 e.c) ∧ x.cell? ⟨w.heap.size, 4, none⟩ = some (.int .i64 e.d) ∧ x.cell? ⟨w.heap.size, 5, none⟩ = some (.int .i64 e.e)) (by kernel_rfl) (HT.out _ hx) (fun hHeld => ?_)
    refine wpAnyH_take (i := 0) (oi := ⟨some 22, _, _, _, _, _⟩) (v := ?_) rfl (by kernel_rfl) (by kernel_rfl) (by kernel_rfl) (fun _ _ _ h => h) (Or.inl ⟨by rfl, ?_⟩) hHeld ?_
    rotate_left
    · intro w' hS'
      (try dsimp only at hS')
      go_simp
      try with_reducible rfl
    try simp only [Act.put, List.setIfInBounds_toArray, List.set_cons_zero, List.set_cons_succ]
    refine wpAnyH_take (i := 1) (oi := ⟨some 23, _, _, _, _, _⟩) (v := ?_) rfl (by kernel_rfl) (by kernel_rfl) (by kernel_rfl) (fun _ _ _ h => h) (Or.inl ⟨by rfl, ?_⟩) hHeld ?_
    rotate_left
    · intro w' hS'
      (try dsimp only at hS')
      go_simp
      try with_reducible rfl
    try simp only [Act.put, List.setIfInBounds_toArray, List.set_cons_zero, List.set_cons_succ]
    refine wpAnyH_take (i := 2) (oi := ⟨some 24, _, _, _, _, _⟩) (v := ?_) rfl (by kernel_rfl) (by kernel_rfl) (by kernel_rfl) (fun _ _ _ h => h) (Or.inl ⟨by rfl, ?_⟩) hHeld ?_
    rotate_left
    · intro w' hS'
      (try dsimp only at hS')
      go_simp
      try with_reducible rfl
    try simp only [Act.put, List.setIfInBounds_toArray, List.set_cons_zero, List.set_cons_succ]
    refine wpAnyH_take (i := 3) (oi := ⟨some 25, _, _, _, _, _⟩) (v := ?_) rfl (by kernel_rfl) (by kernel_rfl) (by kernel_rfl) (fun _ _ _ h => h) (Or.inl ⟨by rfl, ?_⟩) hHeld ?_
    rotate_left
    · intro w' hS'
      (try dsimp only at hS')
      go_simp
      try with_reducible rfl
    try simp only [Act.put, List.setIfInBounds_toArray, List.set_cons_zero, List.set_cons_succ]
    refine wpAnyH_take (i := 4) (oi := ⟨some 26, _, _, _, _, _⟩) (v := ?_) rfl (by kernel_rfl) (by kernel_rfl) (by kernel_rfl) (fun _ _ _ h => h) (Or.inl ⟨by rfl, ?_⟩) hHeld ?_
    rotate_left
    · intro w' hS'
      (try dsimp only at hS')
      go_simp
      try with_reducible rfl
    try simp only [Act.put, List.setIfInBounds_toArray, List.set_cons_zero, List.set_cons_succ]
    refine wpAnyH_take (i := 5) (oi := ⟨some 27, _, _, _, _, _⟩) (v := ?_) rfl (by kernel_rfl) (by kernel_rfl) (by kernel_rfl) (fun _ _ _ h => h) (Or.inl ⟨by rfl, ?_⟩) hHeld ?_
    rotate_left
    · intro w' hS'
      (try dsimp only at hS')
      go_simp
      try with_reducible rfl
    try simp only [Act.put, List.setIfInBounds_toArray, List.set_cons_zero, List.set_cons_succ]
    refine wpAnyH_take (i := 6) (oi := ⟨some 28, _, _, _, _, _⟩) (v := ?_) rfl (by kernel_rfl) (by kernel_rfl) (by kernel_rfl) (fun _ _ _ h => h) (Or.inl ⟨by rfl, ?_⟩) hHeld ?_
    rotate_left
    · intro w' hS'
      (try dsimp only at hS')
      go_simp
      try with_reducible rfl
    try simp only [Act.put, List.setIfInBounds_toArray, List.set_cons_zero, List.set_cons_succ]
    refine wpAnyH_take (i := 7) (oi := ⟨some 29, _, _, _, _, _⟩) (v := undef) rfl (by kernel_rfl) (by kernel_rfl) (by kernel_rfl) (fun _ _ _ h => h) (Or.inr ⟨by rfl, rfl⟩) hHeld ?_
    try simp only [Act.put, List.setIfInBounds_toArray, List.set_cons_zero, List.set_cons_succ]
    refine wpAnyH_take (i := 8) (oi := ⟨some 30, _, _, _, _, _⟩) (v := undef) rfl (by kernel_rfl) (by kernel_rfl) (by kernel_rfl) (fun _ _ _ h => h) (Or.inr ⟨by rfl, rfl⟩) hHeld ?_
    try simp only [Act.put, List.setIfInBounds_toArray, List.set_cons_zero, List.set_cons_succ]
    refine wpAnyH_take (i := 9) (oi := ⟨some 31, _, _, _, _, _⟩) (v := undef) rfl (by kernel_rfl) (by kernel_rfl) (by kernel_rfl) (fun _ _ _ h => h) (Or.inr ⟨by rfl, rfl⟩) hHeld ?_
    try simp only [Act.put, List.setIfInBounds_toArray, List.set_cons_zero, List.set_cons_succ]
    refine wpAnyH_take (i := 10) (oi := ⟨some 32, _, _, _, _, _⟩) (v := ?_) rfl (by kernel_rfl) (by kernel_rfl) (by kernel_rfl) (fun _ _ _ h => h) (Or.inl ⟨by rfl, ?_⟩) hHeld ?_
    rotate_left
    · intro w' hS'
      (try dsimp only at hS')
      go_simp
      try with_reducible rfl
    try simp only [Act.put, List.setIfInBounds_toArray, List.set_cons_zero, List.set_cons_succ]
    refine wpAnyH_take (i := 11) (oi := ⟨some 33, _, _, _, _, _⟩) (v := ?_) rfl (by kernel_rfl) (by kernel_rfl) (by kernel_rfl) (fun _ _ _ h => h) (Or.inl ⟨by rfl, ?_⟩) hHeld ?_
    rotate_left
    · intro w' hS'
      (try dsimp only at hS')
      go_simp
      try with_reducible rfl
    try simp only [Act.put, List.setIfInBounds_toArray, List.set_cons_zero, List.set_cons_succ]
    refine wpAnyH_take (i := 12) (oi := ⟨some 34, _, _, _, _, _⟩) (v := undef) rfl (by kernel_rfl) (by kernel_rfl) (by kernel_rfl) (fun _ _ _ h => h) (Or.inr ⟨by rfl, rfl⟩) hHeld ?_
    try simp only [Act.put, List.setIfInBounds_toArray, List.set_cons_zero, List.set_cons_succ]
    refine wpAnyH_take (i := 13) (oi := ⟨some 35, _, _, _, _, _⟩) (v := undef) rfl (by kernel_rfl) (by kernel_rfl) (by kernel_rfl) (fun _ _ _ h => h) (Or.inr ⟨by rfl, rfl⟩) hHeld ?_
    try simp only [Act.put, List.setIfInBounds_toArray, List.set_cons_zero, List.set_cons_succ]
    refine wpAnyH_take (i := 14) (oi := ⟨some 36, _, _, _, _, _⟩) (v := undef) rfl (by kernel_rfl) (by kernel_rfl) (by kernel_rfl) (fun _ _ _ h => h) (Or.inr ⟨by rfl, rfl⟩) hHeld ?_
    try simp only [Act.put, List.setIfInBounds_toArray, List.set_cons_zero, List.set_cons_succ]
    refine wpAnyH_take (i := 15) (oi := ⟨some 37, _, _, _, _, _⟩) (v := undef) rfl (by kernel_rfl) (by kernel_rfl) (by kernel_rfl) (fun _ _ _ h => h) (Or.inr ⟨by rfl, rfl⟩) hHeld ?_
    try simp only [Act.put, List.setIfInBounds_toArray, List.set_cons_zero, List.set_cons_succ]
    refine wpAnyH_take (i := 16) (oi := ⟨some 38, _, _, _, _, _⟩) (v := undef) rfl (by kernel_rfl) (by kernel_rfl) (by kernel_rfl) (fun _ _ _ h => h) (Or.inr ⟨by rfl, rfl⟩) hHeld ?_
    try simp only [Act.put, List.setIfInBounds_toArray, List.set_cons_zero, List.set_cons_succ]
    refine wpAnyH_take (i := 17) (oi := ⟨some 39, _, _, _, _, _⟩) (v := undef) rfl (by kernel_rfl) (by kernel_rfl) (by kernel_rfl) (fun _ _ _ h => h) (Or.inr ⟨by rfl, rfl⟩) hHeld ?_
    try simp only [Act.put, List.setIfInBounds_toArray, List.set_cons_zero, List.set_cons_succ]
    refine wpAnyH_take (i := 18) (oi := ⟨some 40, _, _, _, _, _⟩) (v := undef) rfl (by kernel_rfl) (by kernel_rfl) (by kernel_rfl) (fun _ _ _ h => h) (Or.inr ⟨by rfl, rfl⟩) hHeld ?_
    try simp only [Act.put, List.setIfInBounds_toArray, List.set_cons_zero, List.set_cons_succ]
    refine wpAnyH_take (i := 19) (oi := ⟨some 41, _, _, _, _, _⟩) (v := undef) rfl (by kernel_rfl) (by kernel_rfl) (by kernel_rfl) (fun _ _ _ h => h) (Or.inr ⟨by rfl, rfl⟩) hHeld ?_
    try simp only [Act.put, List.setIfInBounds_toArray, List.set_cons_zero, List.set_cons_succ]
    refine wpAnyH_take (i := 20) (oi := ⟨some 42, _, _, _, _, _⟩) (v := undef) rfl (by kernel_rfl) (by kernel_rfl) (by kernel_rfl) (fun _ _ _ h => h) (Or.inr ⟨by rfl, rfl⟩) hHeld ?_
    try simp only [Act.put, List.setIfInBounds_toArray, List.set_cons_zero, List.set_cons_succ]
    refine wpAnyH_take (i := 21) (oi := ⟨some 43, _, _, _, _, _⟩) (v := undef) rfl (by kernel_rfl) (by kernel_rfl) (by kernel_rfl) (fun _ _ _ h => h) (Or.inr ⟨by rfl, rfl⟩) hHeld ?_
    try simp only [Act.put, List.setIfInBounds_toArray, List.set_cons_zero, List.set_cons_succ]
    refine wpAnyH_take (i := 22) (oi := ⟨some 44, _, _, _, _, _⟩) (v := ?_) rfl (by kernel_rfl) (by kernel_rfl) (by kernel_rfl) (fun _ _ _ h => h) (Or.inl ⟨by rfl, ?_⟩) hHeld ?_
    rotate_left
    · intro w' hS'
      (try dsimp only at hS')
      go_simp
      try with_reducible rfl
    try simp only [Act.put, List.setIfInBounds_toArray, List.set_cons_zero, List.set_cons_succ]
    refine wpAnyH_done (by kernel_rfl) ?_ _
    go_wp2_with fail
    go_ret
    exact ⟨ret_err (a := 20) Hr20.out.symm, (Upd.of_below B0.out).trans (Upd.of_below (S := fun k => k = g) (Hb1.out.trans (hx.mono Hb1.out.size))) (fun _ _ h => h), _, by rw [Hr20.out, if_neg (by decide)]; exact Hst1.out.all hx⟩
  by_cases hvk : v = (k : Int)
  rotate_left
  · have hvk' : (v != (k : Int)) = true := by simp [hvk]
    have Hr20 := Lib.hid (show r = 20 by rw [Hr.out, Hrm.out]; simp [hvk])
    have Hvk := Lib.hid hvk
    clear hvk
    refine wp_region_held_drew (S := fun x => x.cell? ⟨g, 0, none⟩ = some (.slice (some ⟨bo, oo, none⟩) (k + 1) c0) ∧ x.rangeAt bo (oo + k * 18) (objC xl) ∧ x.cell? ⟨w.heap.size, 0, none⟩ = some (.int .i64 e.k) ∧ x.cell? ⟨w.heap.size, 1, none⟩ = some (.int .i64 e.a) ∧ x.cell? ⟨w.heap.size, 2, none⟩ = some (.int .i64 e.b) ∧ x.cell? ⟨w.heap.size, 3, none⟩ = some (.int .i64 e.c) ∧ x.cell? ⟨w.heap.size, 4, none⟩ = some (.int .i64 e.d) ∧ x.cell? ⟨w.heap.size, 5, none⟩ = some (.int .i64 e.e)) (by kernel_rfl) (HT.out _ hx) (fun hHeld => ?_)
    refine wpAnyH_take (i := 0) (oi := ⟨some 22, _, _, _, _, _⟩) (v := ?_) rfl (by kernel_rfl) (by kernel_rfl) (by kernel_rfl) (fun _ _ _ h => h) (Or.inl ⟨by rfl, ?_⟩) hHeld ?_
    rotate_left
    · intro w' hS'
      (try dsimp only at hS')
      go_simp
      try with_reducible rfl
    try simp only [Act.put, List.setIfInBounds_toArray, List.set_cons_zero, List.set_cons_succ]
    refine wpAnyH_take (i := 1) (oi := ⟨some 23, _, _, _, _, _⟩) (v := ?_) rfl (by kernel_rfl) (by kernel_rfl) (by kernel_rfl) (fun _ _ _ h => h) (Or.inl ⟨by rfl, ?_⟩) hHeld ?_
    rotate_left
    · intro w' hS'
      (try dsimp only at hS')
      go_simp
      try with_reducible rfl
    try simp only [Act.put, List.setIfInBounds_toArray, List.set_cons_zero, List.set_cons_succ]
    refine wpAnyH_take (i := 2) (oi := ⟨some 24, _, _, _, _, _⟩) (v := ?_) rfl (by kernel_rfl) (by kernel_rfl) (by kernel_rfl) (fun _ _ _ h => h) (Or.inl ⟨by rfl, ?_⟩) hHeld ?_
    rotate_left
    · intro w' hS'
      (try dsimp only at hS')
      go_simp
      try with_reducible rfl
    try simp only [Act.put, List.setIfInBounds_toArray, List.set_cons_zero, List.set_cons_succ]
    refine wpAnyH_take (i := 3) (oi := ⟨some 25, _, _, _, _, _⟩) (v := ?_) rfl (by kernel_rfl) (by kernel_rfl) (by kernel_rfl) (fun _ _ _ h => h) (Or.inl ⟨by rfl, ?_⟩) hHeld ?_
    rotate_left
    · intro w' hS'
      (try dsimp only at hS')
      go_simp
      try with_reducible rfl
    try simp only [Act.put, List.setIfInBounds_toArray, List.set_cons_zero, List.set_cons_succ]
    refine wpAnyH_take (i := 4) (oi := ⟨some 26, _, _, _, _, _⟩) (v := ?_) rfl (by kernel_rfl) (by kernel_rfl) (by kernel_rfl) (fun _ _ _ h => h) (Or.inl ⟨by rfl, ?_⟩) hHeld ?_
    rotate_left
    · intro w' hS'
      (try dsimp only at hS')
      go_simp
      try with_reducible rfl
    try simp only [Act.put, List.setIfInBounds_toArray, List.set_cons_zero, List.set_cons_succ]
    refine wpAnyH_take (i := 5) (oi := ⟨some 27, _, _, _, _, _⟩) (v := ?_) rfl (by kernel_rfl) (by kernel_rfl) (by kernel_rfl) (fun _ _ _ h => h) (Or.inl ⟨by rfl, ?_⟩) hHeld ?_
    rotate_left
    · intro w' hS'
      (try dsimp only at hS')
      go_simp
      try with_reducible rfl
    try simp only [Act.put, List.setIfInBounds_toArray, List.set_cons_zero, List.set_cons_succ]
    refine wpAnyH_take (i := 6) (oi := ⟨some 28, _, _, _, _, _⟩) (v := ?_) rfl (by kernel_rfl) (by kernel_rfl) (by kernel_rfl) (fun _ _ _ h => h) (Or.inl ⟨by rfl, ?_⟩) hHeld ?_
    rotate_left
    · intro w' hS'
      (try dsimp only at hS')
      go_simp
      try with_reducible rfl
    try simp only [Act.put, List.setIfInBounds_toArray, List.set_cons_zero, List.set_cons_succ]
    refine wpAnyH_take (i := 7) (oi := ⟨some 29, _, _, _, _, _⟩) (v := ?_) rfl (by kernel_rfl) (by kernel_rfl) (by kernel_rfl) (fun _ _ _ h => h) (Or.inl ⟨by rfl, ?_⟩) hHeld ?_
    rotate_left
    · intro w' hS'
      (try dsimp only at hS')
      go_simp
      try with_reducible rfl
    try simp only [Act.put, List.setIfInBounds_toArray, List.set_cons_zero, List.set_cons_succ]
    refine wpAnyH_take (i := 8) (oi := ⟨some 30, _, _, _, _, _⟩) (v := ?_) rfl (by kernel_rfl) (by kernel_rfl) (by kernel_rfl) (fun _ _ _ h => h) (Or.inl ⟨by rfl, ?_⟩) hHeld ?_
    rotate_left
    · intro w' hS'
      (try dsimp only at hS')
      go_simp
      try with_reducible rfl
    try simp only [Act.put, List.setIfInBounds_toArray, List.set_cons_zero, List.set_cons_succ]
    refine wpAnyH_take (i := 9) (oi := ⟨some 31, _, _, _, _, _⟩) (v := ?_) rfl (by kernel_rfl) (by kernel_rfl) (by kernel_rfl) (fun _ _ _ h => h) (Or.inl ⟨by rfl, ?_⟩) hHeld ?_
    rotate_left
    · intro w' hS'
      (try dsimp only at hS')
      go_simp
      try with_reducible rfl
    try simp only [Act.put, List.setIfInBounds_toArray, List.set_cons_zero, List.set_cons_succ]
    refine wpAnyH_take (i := 10) (oi := ⟨some 32, _, _, _, _, _⟩) (v := ?_) rfl (by kernel_rfl) (by kernel_rfl) (by kernel_rfl) (fun _ _ _ h => h) (Or.inl ⟨by rfl, ?_⟩) hHeld ?_
    rotate_left
    · intro w' hS'
      (try dsimp only at hS')
      go_simp
      try with_reducible rfl
    try simp only [Act.put, List.setIfInBounds_toArray, List.set_cons_zero, List.set_cons_succ]
    refine wpAnyH_take (i := 11) (oi := ⟨some 33, _, _, _, _, _⟩) (v := ?_) rfl (by kernel_rfl) (by kernel_rfl) (by kernel_rfl) (fun _ _ _ h => h) (Or.inl ⟨by rfl, ?_⟩) hHeld ?_
    rotate_left
    · intro w' hS'
      (try dsimp only at hS')
      go_simp
      try with_reducible rfl
    try simp only [Act.put, List.setIfInBounds_toArray, List.set_cons_zero, List.set_cons_succ]
    refine wpAnyH_take (i := 12) (oi := ⟨some 34, _, _, _, _, _⟩) (v := undef) rfl (by kernel_rfl) (by kernel_rfl) (by kernel_rfl) (fun _ _ _ h => h) (Or.inr ⟨by rfl, rfl⟩) hHeld ?_
    try simp only [Act.put, List.setIfInBounds_toArray, List.set_cons_zero, List.set_cons_succ]
    refine wpAnyH_take (i := 13) (oi := ⟨some 35, _, _, _, _, _⟩) (v := undef) rfl (by kernel_rfl) (by kernel_rfl) (by kernel_rfl) (fun _ _ _ h => h) (Or.inr ⟨by rfl, rfl⟩) hHeld ?_
    try simp only [Act.put, List.setIfInBounds_toArray, List.set_cons_zero, List.set_cons_succ]
    refine wpAnyH_take (i := 14) (oi := ⟨some 36, _, _, _, _, _⟩) (v := undef) rfl (by kernel_rfl) (by kernel_rfl) (by kernel_rfl) (fun _ _ _ h => h) (Or.inr ⟨by rfl, rfl⟩) hHeld ?_
    try simp only [Act.put, List.setIfInBounds_toArray, List.set_cons_zero, List.set_cons_succ]
    refine wpAnyH_take (i := 15) (oi := ⟨some 37, _, _, _, _, _⟩) (v := undef) rfl (by kernel_rfl) (by kernel_rfl) (by kernel_rfl) (fun _ _ _ h => h) (Or.inr ⟨by rfl, rfl⟩) hHeld ?_
    try simp only [Act.put, List.setIfInBounds_toArray, List.set_cons_zero, List.set_cons_succ]
    refine wpAnyH_take (i := 16) (oi := ⟨some 38, _, _, _, _, _⟩) (v := undef) rfl (by kernel_rfl) (by kernel_rfl) (by kernel_rfl) (fun _ _ _ h => h) (Or.inr ⟨by rfl, rfl⟩) hHeld ?_
    try simp only [Act.put, List.setIfInBounds_toArray, List.set_cons_zero, List.set_cons_succ]
    refine wpAnyH_take (i := 17) (oi := ⟨some 39, _, _, _, _, _⟩) (v := undef) rfl (by kernel_rfl) (by kernel_rfl) (by kernel_rfl) (fun _ _ _ h => h) (Or.inr ⟨by rfl, rfl⟩) hHeld ?_
    try simp only [Act.put, List.setIfInBounds_toArray, List.set_cons_zero, List.set_cons_succ]
    refine wpAnyH_take (i := 18) (oi := ⟨some 40, _, _, _, _, _⟩) (v := undef) rfl (by kernel_rfl) (by kernel_rfl) (by kernel_rfl) (fun _ _ _ h => h) (Or.inr ⟨by rfl, rfl⟩) hHeld ?_
    try simp only [Act.put, List.setIfInBounds_toArray, List.set_cons_zero, List.set_cons_succ]
    refine wpAnyH_take (i := 19) (oi := ⟨some 41, _, _, _, _, _⟩) (v := undef) rfl (by kernel_rfl) (by kernel_rfl) (by kernel_rfl) (fun _ _ _ h => h) (Or.inr ⟨by rfl, rfl⟩) hHeld ?_
    try simp only [Act.put, List.setIfInBounds_toArray, List.set_cons_zero, List.set_cons_succ]
    refine wpAnyH_take (i := 20) (oi := ⟨some 42, _, _, _, _, _⟩) (v := undef) rfl (by kernel_rfl) (by kernel_rfl) (by kernel_rfl) (fun _ _ _ h => h) (Or.inr ⟨by rfl, rfl⟩) hHeld ?_
    try simp only [Act.put, List.setIfInBounds_toArray, List.set_cons_zero, List.set_cons_succ]
    refine wpAnyH_take (i := 21) (oi := ⟨some 43, _, _, _, _, _⟩) (v := undef) rfl (by kernel_rfl) (by kernel_rfl) (by kernel_rfl) (fun _ _ _ h => h) (Or.inr ⟨by rfl, rfl⟩) hHeld ?_
    try simp only [Act.put, List.setIfInBounds_toArray, List.set_cons_zero, List.set_cons_succ]
    refine wpAnyH_take (i := 22) (oi := ⟨some 44, _, _, _, _, _⟩) (v := ?_) rfl (by kernel_rfl) (by kernel_rfl) (by kernel_rfl) (fun _ _ _ h => h) (Or.inl ⟨by rfl, ?_⟩) hHeld ?_
    rotate_left
    · intro w' hS'
      (try dsimp only at hS')
      go_simp
      try with_reducible rfl
    try simp only [Act.put, List.setIfInBounds_toArray, List.set_cons_zero, List.set_cons_succ]
    refine wpAnyH_done (by kernel_rfl) ?_ _
    go_wp2_with fail
    go_ret
    exact ⟨ret_err (a := 20) Hr20.out.symm, (Upd.of_below B0.out).trans (Upd.of_below (S := fun k => k = g) (Hb1.out.trans (hx.mono Hb1.out.size))) (fun _ _ h => h), _, by rw [Hr20.out, if_neg (by decide)]; exact Hst1.out.all hx⟩
  subst hvk
  by_cases hxe : xl = madeL e
  rotate_left
  · have q : ∀ w, (binOp .neq 108 (.agg (objC xl).toArray) (.agg (madeA e))).run Try.prog w = .ok (.bool true) w := fun w => (obj_neq w xl (madeL e) Hx18.out rfl).trans (by simp [hxe])
    have Hr20 := Lib.hid (show r = 20 by rw [Hr.out, Hrm.out]; simp [hxe])
    clear hxe
    refine wp_region_held_drew (S := fun x => x.cell? ⟨g, 0, none⟩ = some (.slice (some ⟨bo, oo, none⟩) (k + 1) c0) ∧ x.rangeAt bo (oo + k * 18) (objC xl) ∧ x.cell? ⟨w.heap.size, 0, none⟩ = some (.int .i64 e.k) ∧ x.cell? ⟨w.heap.size, 1, none⟩ = some (.int .i64 e.a) ∧ x.cell? ⟨w.heap.size, 2, none⟩ = some (.int .i64 e.b) ∧ x.cell? ⟨w.heap.size, 3, none⟩ = some (.int .i64 e.c) ∧ x.cell? ⟨w.heap.size, 4, none⟩ = some (.int .i64 e.d) ∧ x.cell? ⟨w.heap.size, 5, none⟩ = some (.int .i64 e.e)) (by kernel_rfl) (HT.out _ hx) (fun hHeld => ?_)
    refine wpAnyH_take (i := 0) (oi := ⟨some 22, _, _, _, _, _⟩) (v := ?_) rfl (by kernel_rfl) (by kernel_rfl) (by kernel_rfl) (fun _ _ _ h => h) (Or.inl ⟨by rfl, ?_⟩) hHeld ?_
    rotate_left
    · intro w' hS'
      (try dsimp only at hS')
      go_simp
      try with_reducible rfl
    try simp only [Act.put, List.setIfInBounds_toArray, List.set_cons_zero, List.set_cons_succ]
    refine wpAnyH_take (i := 1) (oi := ⟨some 23, _, _, _, _, _⟩) (v := ?_) rfl (by kernel_rfl) (by kernel_rfl) (by kernel_rfl) (fun _ _ _ h => h) (Or.inl ⟨by rfl, ?_⟩) hHeld ?_
    rotate_left
    · intro w' hS'
      (try dsimp only at hS')
      go_simp
      try with_reducible rfl
    try simp only [Act.put, List.setIfInBounds_toArray, List.set_cons_zero, List.set_cons_succ]
    refine wpAnyH_take (i := 2) (oi := ⟨some 24, _, _, _, _, _⟩) (v := ?_) rfl (by kernel_rfl) (by kernel_rfl) (by kernel_rfl) (fun _ _ _ h => h) (Or.inl ⟨by rfl, ?_⟩) hHeld ?_
    rotate_left
    · intro w' hS'
      (try dsimp only at hS')
      go_simp
      try with_reducible rfl
    try simp only [Act.put, List.setIfInBounds_toArray, List.set_cons_zero, List.set_cons_succ]
    refine wpAnyH_take (i := 3) (oi := ⟨some 25, _, _, _, _, _⟩) (v := ?_) rfl (by kernel_rfl) (by kernel_rfl) (by kernel_rfl) (fun _ _ _ h => h) (Or.inl ⟨by rfl, ?_⟩) hHeld ?_
    rotate_left
    · intro w' hS'
      (try dsimp only at hS')
      go_simp
      try with_reducible rfl
    try simp only [Act.put, List.setIfInBounds_toArray, List.set_cons_zero, List.set_cons_succ]
    refine wpAnyH_take (i := 4) (oi := ⟨some 26, _, _, _, _, _⟩) (v := ?_) rfl (by kernel_rfl) (by kernel_rfl) (by kernel_rfl) (fun _ _ _ h => h) (Or.inl ⟨by rfl, ?_⟩) hHeld ?_
    rotate_left
    · intro w' hS'
      (try dsimp only at hS')
      go_simp
      try with_reducible rfl
    try simp only [Act.put, List.setIfInBounds_toArray, List.set_cons_zero, List.set_cons_succ]
    refine wpAnyH_take (i := 5) (oi := ⟨some 27, _, _, _, _, _⟩) (v := ?_) rfl (by kernel_rfl) (by kernel_rfl) (by kernel_rfl) (fun _ _ _ h => h) (Or.inl ⟨by rfl, ?_⟩) hHeld ?_
    rotate_left
    · intro w' hS'
      (try dsimp only at hS')
      go_simp
      try with_reducible rfl
    try simp only [Act.put, List.setIfInBounds_toArray, List.set_cons_zero, List.set_cons_succ]
    refine wpAnyH_take (i := 6) (oi := ⟨some 28, _, _, _, _, _⟩) (v := ?_) rfl (by kernel_rfl) (by kernel_rfl) (by kernel_rfl) (fun _ _ _ h => h) (Or.inl ⟨by rfl, ?_⟩) hHeld ?_
    rotate_left
    · intro w' hS'
      (try dsimp only at hS')
      go_simp
      try with_reducible rfl
    try simp only [Act.put, List.setIfInBounds_toArray, List.set_cons_zero, List.set_cons_succ]
    refine wpAnyH_take (i := 7) (oi := ⟨some 29, _, _, _, _, _⟩) (v := ?_) rfl (by kernel_rfl) (by kernel_rfl) (by kernel_rfl) (fun _ _ _ h => h) (Or.inl ⟨by rfl, ?_⟩) hHeld ?_
    rotate_left
    · intro w' hS'
      (try dsimp only at hS')
      go_simp
      try with_reducible rfl
    try simp only [Act.put, List.setIfInBounds_toArray, List.set_cons_zero, List.set_cons_succ]
    refine wpAnyH_take (i := 8) (oi := ⟨some 30, _, _, _, _, _⟩) (v := ?_) rfl (by kernel_rfl) (by kernel_rfl) (by kernel_rfl) (fun _ _ _ h => h) (Or.inl ⟨by rfl, ?_⟩) hHeld ?_
    rotate_left
    · intro w' hS'
      (try dsimp only at hS')
      go_simp
      try with_reducible rfl
    try simp only [Act.put, List.setIfInBounds_toArray, List.set_cons_zero, List.set_cons_succ]
    refine wpAnyH_take (i := 9) (oi := ⟨some 31, _, _, _, _, _⟩) (v := ?_) rfl (by kernel_rfl) (by kernel_rfl) (by kernel_rfl) (fun _ _ _ h => h) (Or.inl ⟨by rfl, ?_⟩) hHeld ?_
    rotate_left
    · intro w' hS'
      (try dsimp only at hS')
      go_simp
      try with_reducible rfl
    try simp only [Act.put, List.setIfInBounds_toArray, List.set_cons_zero, List.set_cons_succ]
    refine wpAnyH_take (i := 10) (oi := ⟨some 32, _, _, _, _, _⟩) (v := ?_) rfl (by kernel_rfl) (by kernel_rfl) (by kernel_rfl) (fun _ _ _ h => h) (Or.inl ⟨by rfl, ?_⟩) hHeld ?_
    rotate_left
    · intro w' hS'
      (try dsimp only at hS')
      go_simp
      try with_reducible rfl
    try simp only [Act.put, List.setIfInBounds_toArray, List.set_cons_zero, List.set_cons_succ]
    refine wpAnyH_take (i := 11) (oi := ⟨some 33, _, _, _, _, _⟩) (v := ?_) rfl (by kernel_rfl) (by kernel_rfl) (by kernel_rfl) (fun _ _ _ h => h) (Or.inl ⟨by rfl, ?_⟩) hHeld ?_
    rotate_left
    · intro w' hS'
      (try dsimp only at hS')
      go_simp
      try with_reducible rfl
    try simp only [Act.put, List.setIfInBounds_toArray, List.set_cons_zero, List.set_cons_succ]
    refine wpAnyH_take (i := 12) (oi := ⟨some 34, _, _, _, _, _⟩) (v := ?_) rfl (by kernel_rfl) (by kernel_rfl) (by kernel_rfl) (fun _ _ _ h => h) (Or.inl ⟨by rfl, ?_⟩) hHeld ?_
    rotate_left
    · intro w' hS'
      (try dsimp only at hS')
      go_simp
      try with_reducible rfl
    try simp only [Act.put, List.setIfInBounds_toArray, List.set_cons_zero, List.set_cons_succ]
    refine wpAnyH_take (i := 13) (oi := ⟨some 35, _, _, _, _, _⟩) (v := ?_) rfl (by kernel_rfl) (by kernel_rfl) (by kernel_rfl) (fun _ _ _ h => h) (Or.inl ⟨by rfl, ?_⟩) hHeld ?_
    rotate_left
    · intro w' hS'
      (try dsimp only at hS')
      go_simp
      try with_reducible rfl
    try simp only [Act.put, List.setIfInBounds_toArray, List.set_cons_zero, List.set_cons_succ]
    refine wpAnyH_take (i := 14) (oi := ⟨some 36, _, _, _, _, _⟩) (v := ?_) rfl (by kernel_rfl) (by kernel_rfl) (by kernel_rfl) (fun _ _ _ h => h) (Or.inl ⟨by rfl, ?_⟩) hHeld ?_
    rotate_left
    · intro w' hS'
      (try dsimp only at hS')
      go_simp
      try with_reducible rfl
    try simp only [Act.put, List.setIfInBounds_toArray, List.set_cons_zero, List.set_cons_succ]
    refine wpAnyH_take (i := 15) (oi := ⟨some 37, _, _, _, _, _⟩) (v := ?_) rfl (by kernel_rfl) (by kernel_rfl) (by kernel_rfl) (fun _ _ _ h => h) (Or.inl ⟨by rfl, ?_⟩) hHeld ?_
    rotate_left
    · intro w' hS'
      (try dsimp only at hS')
      go_simp
      try with_reducible rfl
    try simp only [Act.put, List.setIfInBounds_toArray, List.set_cons_zero, List.set_cons_succ]
    refine wpAnyH_take (i := 16) (oi := ⟨some 38, _, _, _, _, _⟩) (v := ?_) rfl (by kernel_rfl) (by kernel_rfl) (by kernel_rfl) (fun _ _ _ h => h) (Or.inl ⟨by rfl, ?_⟩) hHeld ?_
    rotate_left
    · intro w' hS'
      (try dsimp only at hS')
      go_simp
      try with_reducible rfl
    try simp only [Act.put, List.setIfInBounds_toArray, List.set_cons_zero, List.set_cons_succ]
    refine wpAnyH_take (i := 17) (oi := ⟨some 39, _, _, _, _, _⟩) (v := ?_) rfl (by kernel_rfl) (by kernel_rfl) (by kernel_rfl) (fun _ _ _ h => h) (Or.inl ⟨by rfl, ?_⟩) hHeld ?_
    rotate_left
    · intro w' hS'
      (try dsimp only at hS')
      go_simp
      try with_reducible rfl
    try simp only [Act.put, List.setIfInBounds_toArray, List.set_cons_zero, List.set_cons_succ]
    refine wpAnyH_take (i := 18) (oi := ⟨some 40, _, _, _, _, _⟩) rfl (by kernel_rfl) (by kernel_rfl) (by kernel_rfl) (fun _ _ _ h => h) (yieldsIf_load_mid rfl 108 (.tmp 39) rfl bo (oo + k * 18) rfl (objC xl) _ (fun w hw => hw.2.1) Try.underlying108 rfl (by rw [objC, List.length_map, Hx18.out]; kernel_rfl)) hHeld ?_
    try simp only [Act.put, List.setIfInBounds_toArray, List.set_cons_zero, List.set_cons_succ]
    refine wpAnyH_take (i := 19) (oi := ⟨some 41, _, _, _, _, _⟩) (v := ?_) rfl (by kernel_rfl) (by kernel_rfl) (by kernel_rfl) (fun _ _ _ h => h) (Or.inl ⟨by rfl, ?_⟩) hHeld ?_
    rotate_left
    · intro w' hS'
      (try dsimp only at hS')
      go_simp
      try with_reducible rfl
    try simp only [Act.put, List.setIfInBounds_toArray, List.set_cons_zero, List.set_cons_succ]
    refine wpAnyH_all (rs := [20]) (by kernel_rfl) (by simp) ?_
    intro ix hix
    obtain rfl : ix = 20 := by simpa using hix
    clear hix
    refine wpOp_step (o := ⟨some 42, _, _, _, _, _⟩) rfl (fun K hK => ?_)
    have HK := Lib.hid hK
    clear hK
    go_simp
    refine (made _ e).mono ?_
    rintro x w6 ⟨rfl, hb6⟩
    replace hx := hx.trans (hb6.mono hx.size)
    clear hb6
    go_wp2_with fail
    refine HK.out _ _ ⟨(HT.out _ hx), ?_⟩
    clear HK
    try clear hHeld
    have hHeld := (HT.out _ hx)
    try simp only [Act.put, List.setIfInBounds_toArray, List.set_cons_zero, List.set_cons_succ]
    refine wpAnyH_take (i := 21) (oi := ⟨some 43, _, _, _, _, _⟩) (v := ?_) rfl (by kernel_rfl) (by kernel_rfl) (by kernel_rfl) (fun _ _ _ h => h) (Or.inl ⟨by rfl, ?_⟩) hHeld ?_
    rotate_left
    · intro w' hS'
      (try dsimp only at hS')
      go_simp
      try with_reducible rfl
    try simp only [Act.put, List.setIfInBounds_toArray, List.set_cons_zero, List.set_cons_succ]
    refine wpAnyH_take (i := 22) (oi := ⟨some 44, _, _, _, _, _⟩) (v := ?_) rfl (by kernel_rfl) (by kernel_rfl) (by kernel_rfl) (fun _ _ _ h => h) (Or.inl ⟨by rfl, ?_⟩) hHeld ?_
    rotate_left
    · intro w' hS'
      (try dsimp only at hS')
      go_simp
      try with_reducible rfl
    try simp only [Act.put, List.setIfInBounds_toArray, List.set_cons_zero, List.set_cons_succ]
    refine wpAnyH_done (by kernel_rfl) ?_ _
    go_wp2_with fail
    go_ret
    exact ⟨ret_err (a := 20) Hr20.out.symm, (Upd.of_below B0.out).trans (Upd.of_below (S := fun k => k = g) (Hb1.out.trans (hx.mono Hb1.out.size))) (fun _ _ h => h), _, by rw [Hr20.out, if_neg (by decide)]; exact Hst1.out.all hx⟩
  have q : ∀ w, (binOp .neq 108 (.agg (objC xl).toArray) (.agg (madeA e))).run Try.prog w = .ok (.bool false) w := fun w => (obj_neq w xl (madeL e) Hx18.out rfl).trans (by simp [hxe])
  have Hr0 := Lib.hid (show r = 0 by rw [Hr.out, Hrm.out]; simp [hxe])
  clear hxe
  refine wp_region_held_drew (S := fun x => x.cell? ⟨g, 0, none⟩ = some (.slice (some ⟨bo, oo, none⟩) (k + 1) c0) ∧ x.rangeAt bo (oo + k * 18) (objC xl) ∧ x.cell? ⟨w.heap.size, 0, none⟩ = some (.int .i64 e.k) ∧ x.cell? ⟨w.heap.size, 1, none⟩ = some (.int .i64 e.a) ∧ x.cell? ⟨w.heap.size, 2, none⟩ = some (.int .i64 e.b) ∧ x.cell? ⟨w.heap.size, 3, none⟩ = some (.int .i64 e.c) ∧ x.cell? ⟨w.heap.size, 4, none⟩ = some (.int .i64 e.d) ∧ x.cell? ⟨w.heap.size, 5, none⟩ = some (.int .i64 e.e)) (by kernel_rfl) (HT.out _ hx) (fun hHeld => ?_)
  refine wpAnyH_take (i := 0) (oi := ⟨some 22, _, _, _, _, _⟩) (v := ?_) rfl (by kernel_rfl) (by kernel_rfl) (by kernel_rfl) (fun _ _ _ h => h) (Or.inl ⟨by rfl, ?_⟩) hHeld ?_
  rotate_left
  · intro w' hS'
    (try dsimp only at hS')
    go_simp
    try with_reducible rfl
  try simp only [Act.put, List.setIfInBounds_toArray, List.set_cons_zero, List.set_cons_succ]
  refine wpAnyH_take (i := 1) (oi := ⟨some 23, _, _, _, _, _⟩) (v := ?_) rfl (by kernel_rfl) (by kernel_rfl) (by kernel_rfl) (fun _ _ _ h => h) (Or.inl ⟨by rfl, ?_⟩) hHeld ?_
  rotate_left
  · intro w' hS'
    (try dsimp only at hS')
    go_simp
    try with_reducible rfl
  try simp only [Act.put, List.setIfInBounds_toArray, List.set_cons_zero, List.set_cons_succ]
  refine wpAnyH_take (i := 2) (oi := ⟨some 24, _, _, _, _, _⟩) (v := ?_) rfl (by kernel_rfl) (by kernel_rfl) (by kernel_rfl) (fun _ _ _ h => h) (Or.inl ⟨by rfl, ?_⟩) hHeld ?_
  rotate_left
  · intro w' hS'
    (try dsimp only at hS')
    go_simp
    try with_reducible rfl
  try simp only [Act.put, List.setIfInBounds_toArray, List.set_cons_zero, List.set_cons_succ]
  refine wpAnyH_take (i := 3) (oi := ⟨some 25, _, _, _, _, _⟩) (v := ?_) rfl (by kernel_rfl) (by kernel_rfl) (by kernel_rfl) (fun _ _ _ h => h) (Or.inl ⟨by rfl, ?_⟩) hHeld ?_
  rotate_left
  · intro w' hS'
    (try dsimp only at hS')
    go_simp
    try with_reducible rfl
  try simp only [Act.put, List.setIfInBounds_toArray, List.set_cons_zero, List.set_cons_succ]
  refine wpAnyH_take (i := 4) (oi := ⟨some 26, _, _, _, _, _⟩) (v := ?_) rfl (by kernel_rfl) (by kernel_rfl) (by kernel_rfl) (fun _ _ _ h => h) (Or.inl ⟨by rfl, ?_⟩) hHeld ?_
  rotate_left
  · intro w' hS'
    (try dsimp only at hS')
    go_simp
    try with_reducible rfl
  try simp only [Act.put, List.setIfInBounds_toArray, List.set_cons_zero, List.set_cons_succ]
  refine wpAnyH_take (i := 5) (oi := ⟨some 27, _, _, _, _, _⟩) (v := ?_) rfl (by kernel_rfl) (by kernel_rfl) (by kernel_rfl) (fun _ _ _ h => h) (Or.inl ⟨by rfl, ?_⟩) hHeld ?_
  rotate_left
  · intro w' hS'
    (try dsimp only at hS')
    go_simp
    try with_reducible rfl
  try simp only [Act.put, List.setIfInBounds_toArray, List.set_cons_zero, List.set_cons_succ]
  refine wpAnyH_take (i := 6) (oi := ⟨some 28, _, _, _, _, _⟩) (v := ?_) rfl (by kernel_rfl) (by kernel_rfl) (by kernel_rfl) (fun _ _ _ h => h) (Or.inl ⟨by rfl, ?_⟩) hHeld ?_
  rotate_left
  · intro w' hS'
    (try dsimp only at hS')
    go_simp
    try with_reducible rfl
  try simp only [Act.put, List.setIfInBounds_toArray, List.set_cons_zero, List.set_cons_succ]
  refine wpAnyH_take (i := 7) (oi := ⟨some 29, _, _, _, _, _⟩) (v := ?_) rfl (by kernel_rfl) (by kernel_rfl) (by kernel_rfl) (fun _ _ _ h => h) (Or.inl ⟨by rfl, ?_⟩) hHeld ?_
  rotate_left
  · intro w' hS'
    (try dsimp only at hS')
    go_simp
    try with_reducible rfl
  try simp only [Act.put, List.setIfInBounds_toArray, List.set_cons_zero, List.set_cons_succ]
  refine wpAnyH_take (i := 8) (oi := ⟨some 30, _, _, _, _, _⟩) (v := ?_) rfl (by kernel_rfl) (by kernel_rfl) (by kernel_rfl) (fun _ _ _ h => h) (Or.inl ⟨by rfl, ?_⟩) hHeld ?_
  rotate_left
  · intro w' hS'
    (try dsimp only at hS')
    go_simp
    try with_reducible rfl
  try simp only [Act.put, List.setIfInBounds_toArray, List.set_cons_zero, List.set_cons_succ]
  refine wpAnyH_take (i := 9) (oi := ⟨some 31, _, _, _, _, _⟩) (v := ?_) rfl (by kernel_rfl) (by kernel_rfl) (by kernel_rfl) (fun _ _ _ h => h) (Or.inl ⟨by rfl, ?_⟩) hHeld ?_
  rotate_left
  · intro w' hS'
    (try dsimp only at hS')
    go_simp
    try with_reducible rfl
  try simp only [Act.put, List.setIfInBounds_toArray, List.set_cons_zero, List.set_cons_succ]
  refine wpAnyH_take (i := 10) (oi := ⟨some 32, _, _, _, _, _⟩) (v := ?_) rfl (by kernel_rfl) (by kernel_rfl) (by kernel_rfl) (fun _ _ _ h => h) (Or.inl ⟨by rfl, ?_⟩) hHeld ?_
  rotate_left
  · intro w' hS'
    (try dsimp only at hS')
    go_simp
    try with_reducible rfl
  try simp only [Act.put, List.setIfInBounds_toArray, List.set_cons_zero, List.set_cons_succ]
  refine wpAnyH_take (i := 11) (oi := ⟨some 33, _, _, _, _, _⟩) (v := ?_) rfl (by kernel_rfl) (by kernel_rfl) (by kernel_rfl) (fun _ _ _ h => h) (Or.inl ⟨by rfl, ?_⟩) hHeld ?_
  rotate_left
  · intro w' hS'
    (try dsimp only at hS')
    go_simp
    try with_reducible rfl
  try simp only [Act.put, List.setIfInBounds_toArray, List.set_cons_zero, List.set_cons_succ]
  refine wpAnyH_take (i := 12) (oi := ⟨some 34, _, _, _, _, _⟩) (v := ?_) rfl (by kernel_rfl) (by kernel_rfl) (by kernel_rfl) (fun _ _ _ h => h) (Or.inl ⟨by rfl, ?_⟩) hHeld ?_
  rotate_left
  · intro w' hS'
    (try dsimp only at hS')
    go_simp
    try with_reducible rfl
  try simp only [Act.put, List.setIfInBounds_toArray, List.set_cons_zero, List.set_cons_succ]
  refine wpAnyH_take (i := 13) (oi := ⟨some 35, _, _, _, _, _⟩) (v := ?_) rfl (by kernel_rfl) (by kernel_rfl) (by kernel_rfl) (fun _ _ _ h => h) (Or.inl ⟨by rfl, ?_⟩) hHeld ?_
  rotate_left
  · intro w' hS'
    (try dsimp only at hS')
    go_simp
    try with_reducible rfl
  try simp only [Act.put, List.setIfInBounds_toArray, List.set_cons_zero, List.set_cons_succ]
  refine wpAnyH_take (i := 14) (oi := ⟨some 36, _, _, _, _, _⟩) (v := ?_) rfl (by kernel_rfl) (by kernel_rfl) (by kernel_rfl) (fun _ _ _ h => h) (Or.inl ⟨by rfl, ?_⟩) hHeld ?_
  rotate_left
  · intro w' hS'
    (try dsimp only at hS')
    go_simp
    try with_reducible rfl
  try simp only [Act.put, List.setIfInBounds_toArray, List.set_cons_zero, List.set_cons_succ]
  refine wpAnyH_take (i := 15) (oi := ⟨some 37, _, _, _, _, _⟩) (v := ?_) rfl (by kernel_rfl) (by kernel_rfl) (by kernel_rfl) (fun _ _ _ h => h) (Or.inl ⟨by rfl, ?_⟩) hHeld ?_
  rotate_left
  · intro w' hS'
    (try dsimp only at hS')
    go_simp
    try with_reducible rfl
  try simp only [Act.put, List.setIfInBounds_toArray, List.set_cons_zero, List.set_cons_succ]
  refine wpAnyH_take (i := 16) (oi := ⟨some 38, _, _, _, _, _⟩) (v := ?_) rfl (by kernel_rfl) (by kernel_rfl) (by kernel_rfl) (fun _ _ _ h => h) (Or.inl ⟨by rfl, ?_⟩) hHeld ?_
  rotate_left
  · intro w' hS'
    (try dsimp only at hS')
    go_simp
    try with_reducible rfl
  try simp only [Act.put, List.setIfInBounds_toArray, List.set_cons_zero, List.set_cons_succ]
  refine wpAnyH_take (i := 17) (oi := ⟨some 39, _, _, _, _, _⟩) (v := ?_) rfl (by kernel_rfl) (by kernel_rfl) (by kernel_rfl) (fun _ _ _ h => h) (Or.inl ⟨by rfl, ?_⟩) hHeld ?_
  rotate_left
  · intro w' hS'
    (try dsimp only at hS')
    go_simp
    try with_reducible rfl
  try simp only [Act.put, List.setIfInBounds_toArray, List.set_cons_zero, List.set_cons_succ]
  refine wpAnyH_take (i := 18) (oi := ⟨some 40, _, _, _, _, _⟩) rfl (by kernel_rfl) (by kernel_rfl) (by kernel_rfl) (fun _ _ _ h => h) (yieldsIf_load_mid rfl 108 (.tmp 39) rfl bo (oo + k * 18) rfl (objC xl) _ (fun w hw => hw.2.1) Try.underlying108 rfl (by rw [objC, List.length_map, Hx18.out]; kernel_rfl)) hHeld ?_
  try simp only [Act.put, List.setIfInBounds_toArray, List.set_cons_zero, List.set_cons_succ]
  refine wpAnyH_take (i := 19) (oi := ⟨some 41, _, _, _, _, _⟩) (v := ?_) rfl (by kernel_rfl) (by kernel_rfl) (by kernel_rfl) (fun _ _ _ h => h) (Or.inl ⟨by rfl, ?_⟩) hHeld ?_
  rotate_left
  · intro w' hS'
    (try dsimp only at hS')
    go_simp
    try with_reducible rfl
  try simp only [Act.put, List.setIfInBounds_toArray, List.set_cons_zero, List.set_cons_succ]
  refine wpAnyH_all (rs := [20]) (by kernel_rfl) (by simp) ?_
  intro ix hix
  obtain rfl : ix = 20 := by simpa using hix
  clear hix
  refine wpOp_step (o := ⟨some 42, _, _, _, _, _⟩) rfl (fun K hK => ?_)
  have HK := Lib.hid hK
  clear hK
  go_simp
  refine (made _ e).mono ?_
  rintro x w6 ⟨rfl, hb6⟩
  replace hx := hx.trans (hb6.mono hx.size)
  clear hb6
  go_wp2_with fail
  refine HK.out _ _ ⟨(HT.out _ hx), ?_⟩
  clear HK
  try clear hHeld
  have hHeld := (HT.out _ hx)
  try simp only [Act.put, List.setIfInBounds_toArray, List.set_cons_zero, List.set_cons_succ]
  refine wpAnyH_take (i := 21) (oi := ⟨some 43, _, _, _, _, _⟩) (v := ?_) rfl (by kernel_rfl) (by kernel_rfl) (by kernel_rfl) (fun _ _ _ h => h) (Or.inl ⟨by rfl, ?_⟩) hHeld ?_
  rotate_left
  · intro w' hS'
    (try dsimp only at hS')
    go_simp
    try with_reducible rfl
  try simp only [Act.put, List.setIfInBounds_toArray, List.set_cons_zero, List.set_cons_succ]
  refine wpAnyH_take (i := 22) (oi := ⟨some 44, _, _, _, _, _⟩) (v := ?_) rfl (by kernel_rfl) (by kernel_rfl) (by kernel_rfl) (fun _ _ _ h => h) (Or.inl ⟨by rfl, ?_⟩) hHeld ?_
  rotate_left
  · intro w' hS'
    (try dsimp only at hS')
    go_simp
    try with_reducible rfl
  try simp only [Act.put, List.setIfInBounds_toArray, List.set_cons_zero, List.set_cons_succ]
  refine wpAnyH_done (by kernel_rfl) ?_ _
  clear q
  have hst2 := Hst1.out.all hx
  have hu2 := (Upd.of_below B0.out).trans (Upd.of_below (S := fun k => k = g) (Hb1.out.trans (hx.mono Hb1.out.size))) (fun _ _ h => h)
  have hBW : B ≤ w6.heap.size := by have := hu2.size; omega
  generalize w6 = W at *
  clear hHeld HT hx
  obtain ⟨a3, c3, h3, r3, f3⟩ := hst2.own.sz0
  obtain ⟨a1, c1, h1, r1, f1⟩ := hst2.own.szl 10 (by decide)
  have hc3 : a3 = some ⟨bo, oo, none⟩ ∧ c3 = c0 := by have := h3.symm.trans Hc0.out; simp at this; exact this
  obtain ⟨rfl, rfl⟩ := hc3
  have hlen : 0 < (lst s 10).length := by have := Hb.out; simpa using this
  obtain ⟨lb, lo, rfl, hlb, _⟩ := r1.sl.nonempty hlen
  obtain ⟨m, hm⟩ : ∃ m, (lst s 10).length = m + 1 := ⟨(lst s 10).length - 1, by omega⟩
  have hlg := hst2.off 11 _ _ (by decide) h1 _ rfl
  have Ho0 := Lib.hid h3
  have Ho1 := Lib.hid h1
  have Hlg := Lib.hid hlg
  have k0 := (obj_cell hst2.obj 0).trans h3
  have kc11 := (obj_cell hst2.obj 11).trans h1
  have kf0 := obj_free hst2.obj 0
  have kf11 := obj_free hst2.obj 11
  rw [Hn.out] at k0
  change W.cell? _ = some (.slice _ (lst s 10).length c1) at kc11
  rw [hm] at kc11
  have Ro2 := Lib.hid r3
  change RowAt W _ 1 _ (lst s 10).length c1 ((lst s 10).map (.int .i64)) at r1
  rw [hm] at r1
  have hc1 := r1.le
  have hc1m := r1.max
  unfold maxLen at hc1m
  have Rl2 := Lib.hid r1
  have Hm := Lib.hid hm
  clear h3 r3 f3 h1 r1 f1 hlg hm hlen
  have hkc : k ≤ c3 := by omega
  have hmc : m ≤ c1 := by omega
  go_wp2_with fail
  have hHeld0 : W.drew.cell? ⟨g, 0, none⟩ = _ := k0
  clear k0
  have hwm : IntKind.i64.wrap (m : Int) = (m : Int) := by simp [IntKind.wrap, IntKind.signed, IntKind.bits]; omega
  have hm00 : (0 : Int) ≤ (m : Int) := by omega
  refine wp_region_T 19 (fun x => x.cell? ⟨g, 0, none⟩ = some (.slice (some ⟨bo, oo, none⟩) (k + 1) c3)) (by kernel_rfl) hHeld0 (fun hHeld => ?_)
  refine wpAnyT_takeU (i := 0) (oi := ⟨some 51, _, _, _, _, _⟩) (v := ?_) rfl (by kernel_rfl) (by kernel_rfl) (by kernel_rfl) (by kernel_rfl) (fun _ _ _ h => h) (Or.inl ⟨by rfl, ?_⟩) (fun _ => hHeld) ?_
  rotate_left
  · intro w' hS'
    (try dsimp only at hS')
    go_simp
    try with_reducible rfl
  try simp only [Act.put, List.setIfInBounds_toArray, List.set_cons_zero, List.set_cons_succ]
  refine wpAnyT_takeU (i := 1) (oi := ⟨some 52, _, _, _, _, _⟩) (v := ?_) rfl (by kernel_rfl) (by kernel_rfl) (by kernel_rfl) (by kernel_rfl) (fun _ _ _ h => h) (Or.inl ⟨by rfl, ?_⟩) (fun _ => hHeld) ?_
  rotate_left
  · intro w' hS'
    (try dsimp only at hS')
    go_simp
    try with_reducible rfl
  try simp only [Act.put, List.setIfInBounds_toArray, List.set_cons_zero, List.set_cons_succ]
  refine wpAnyT_takeU (i := 2) (oi := ⟨some 53, _, _, _, _, _⟩) (v := ?_) rfl (by kernel_rfl) (by kernel_rfl) (by kernel_rfl) (by kernel_rfl) (fun _ _ _ h => h) (Or.inl ⟨by rfl, ?_⟩) (fun _ => hHeld) ?_
  rotate_left
  · intro w' hS'
    (try dsimp only at hS')
    go_simp
    try with_reducible rfl
  try simp only [Act.put, List.setIfInBounds_toArray, List.set_cons_zero, List.set_cons_succ]
  refine wpAnyT_takeU (i := 3) (oi := ⟨some 54, _, _, _, _, _⟩) (v := ?_) rfl (by kernel_rfl) (by kernel_rfl) (by kernel_rfl) (by kernel_rfl) (fun _ _ _ h => h) (Or.inl ⟨by rfl, ?_⟩) (fun _ => hHeld) ?_
  rotate_left
  · intro w' hS'
    (try dsimp only at hS')
    go_simp
    try with_reducible rfl
  try simp only [Act.put, List.setIfInBounds_toArray, List.set_cons_zero, List.set_cons_succ]
  refine wpAnyT_takeU (i := 4) (oi := ⟨some 55, _, _, _, _, _⟩) (v := ?_) rfl (by kernel_rfl) (by kernel_rfl) (by kernel_rfl) (by kernel_rfl) (fun _ _ _ h => h) (Or.inl ⟨by rfl, ?_⟩) (fun _ => hHeld) ?_
  rotate_left
  · intro w' hS'
    (try dsimp only at hS')
    go_simp
    try with_reducible rfl
  try simp only [Act.put, List.setIfInBounds_toArray, List.set_cons_zero, List.set_cons_succ]
  refine wpAnyT_take (i := 5) (oi := ⟨some 56, _, _, _, _, _⟩) (v := ?_) rfl (by kernel_rfl) (by kernel_rfl) (by kernel_rfl) (by kernel_rfl) (fun _ _ _ h => h) (Or.inl ⟨by rfl, ?_⟩) hHeld ?_
  rotate_left
  · intro w' hS'
    (try dsimp only at hS')
    go_simp
    try with_reducible rfl
  try simp only [Act.put, List.setIfInBounds_toArray, List.set_cons_zero, List.set_cons_succ]
  refine wpAnyT_takeU (i := 6) (oi := ⟨some 57, _, _, _, _, _⟩) (v := ?_) rfl (by kernel_rfl) (by kernel_rfl) (by kernel_rfl) (by kernel_rfl) (fun _ _ _ h => h) (Or.inl ⟨by rfl, ?_⟩) (fun _ => hHeld) ?_
  rotate_left
  · intro w' hS'
    (try dsimp only at hS')
    go_simp
    try with_reducible rfl
  try simp only [Act.put, List.setIfInBounds_toArray, List.set_cons_zero, List.set_cons_succ]
  refine wpAnyT_takeU (i := 7) (oi := ⟨some 58, _, _, _, _, _⟩) (v := ?_) rfl (by kernel_rfl) (by kernel_rfl) (by kernel_rfl) (by kernel_rfl) (fun _ _ _ h => h) (Or.inl ⟨by rfl, ?_⟩) (fun _ => hHeld) ?_
  rotate_left
  · intro w' hS'
    (try dsimp only at hS')
    go_simp
    try with_reducible rfl
  try simp only [Act.put, List.setIfInBounds_toArray, List.set_cons_zero, List.set_cons_succ]
  refine wpAnyT_takeU (i := 8) (oi := ⟨some 59, _, _, _, _, _⟩) (v := ?_) rfl (by kernel_rfl) (by kernel_rfl) (by kernel_rfl) (by kernel_rfl) (fun _ _ _ h => h) (Or.inl ⟨by rfl, ?_⟩) (fun _ => hHeld) ?_
  rotate_left
  · intro w' hS'
    (try dsimp only at hS')
    go_simp
    try with_reducible rfl
  try simp only [Act.put, List.setIfInBounds_toArray, List.set_cons_zero, List.set_cons_succ]
  refine wpAnyT_takeU (i := 9) (oi := ⟨some 60, _, _, _, _, _⟩) (v := ?_) rfl (by kernel_rfl) (by kernel_rfl) (by kernel_rfl) (by kernel_rfl) (fun _ _ _ h => h) (Or.inl ⟨by rfl, ?_⟩) (fun _ => hHeld) ?_
  rotate_left
  · intro w' hS'
    (try dsimp only at hS')
    go_simp
    try with_reducible rfl
  try simp only [Act.put, List.setIfInBounds_toArray, List.set_cons_zero, List.set_cons_succ]
  refine wpAnyT_takeU (i := 10) (oi := ⟨some 61, _, _, _, _, _⟩) (v := ?_) rfl (by kernel_rfl) (by kernel_rfl) (by kernel_rfl) (by kernel_rfl) (fun _ _ _ h => h) (Or.inl ⟨by rfl, ?_⟩) (fun _ => hHeld) ?_
  rotate_left
  · intro w' hS'
    (try dsimp only at hS')
    go_simp
    try with_reducible rfl
  try simp only [Act.put, List.setIfInBounds_toArray, List.set_cons_zero, List.set_cons_succ]
  refine wpAnyT_takeU (i := 11) (oi := ⟨some 62, _, _, _, _, _⟩) (v := ?_) rfl (by kernel_rfl) (by kernel_rfl) (by kernel_rfl) (by kernel_rfl) (fun _ _ _ h => h) (Or.inl ⟨by rfl, ?_⟩) (fun _ => hHeld) ?_
  rotate_left
  · intro w' hS'
    (try dsimp only at hS')
    go_simp
    try with_reducible rfl
  try simp only [Act.put, List.setIfInBounds_toArray, List.set_cons_zero, List.set_cons_succ]
  refine wpAnyT_takeU (i := 12) (oi := ⟨some 63, _, _, _, _, _⟩) (v := ?_) rfl (by kernel_rfl) (by kernel_rfl) (by kernel_rfl) (by kernel_rfl) (fun _ _ _ h => h) (Or.inl ⟨by rfl, ?_⟩) (fun _ => hHeld) ?_
  rotate_left
  · intro w' hS'
    (try dsimp only at hS')
    go_simp
    try with_reducible rfl
  try simp only [Act.put, List.setIfInBounds_toArray, List.set_cons_zero, List.set_cons_succ]
  refine wpAnyT_takeU (i := 13) (oi := ⟨some 64, _, _, _, _, _⟩) (v := ?_) rfl (by kernel_rfl) (by kernel_rfl) (by kernel_rfl) (by kernel_rfl) (fun _ _ _ h => h) (Or.inl ⟨by rfl, ?_⟩) (fun _ => hHeld) ?_
  rotate_left
  · intro w' hS'
    (try dsimp only at hS')
    go_simp
    try with_reducible rfl
  try simp only [Act.put, List.setIfInBounds_toArray, List.set_cons_zero, List.set_cons_succ]
  refine wpAnyT_takeU (i := 14) (oi := ⟨some 65, _, _, _, _, _⟩) (v := ?_) rfl (by kernel_rfl) (by kernel_rfl) (by kernel_rfl) (by kernel_rfl) (fun _ _ _ h => h) (Or.inl ⟨by rfl, ?_⟩) (fun _ => hHeld) ?_
  rotate_left
  · intro w' hS'
    (try dsimp only at hS')
    go_simp
    try with_reducible rfl
  try simp only [Act.put, List.setIfInBounds_toArray, List.set_cons_zero, List.set_cons_succ]
  refine wpAnyT_takeU (i := 15) (oi := ⟨some 66, _, _, _, _, _⟩) (v := ?_) rfl (by kernel_rfl) (by kernel_rfl) (by kernel_rfl) (by kernel_rfl) (fun _ _ _ h => h) (Or.inl ⟨by rfl, ?_⟩) (fun _ => hHeld) ?_
  rotate_left
  · intro w' hS'
    (try dsimp only at hS')
    go_simp
    try with_reducible rfl
  try simp only [Act.put, List.setIfInBounds_toArray, List.set_cons_zero, List.set_cons_succ]
  refine wpAnyT_takeU (i := 16) (oi := ⟨some 67, _, _, _, _, _⟩) (v := ?_) rfl (by kernel_rfl) (by kernel_rfl) (by kernel_rfl) (by kernel_rfl) (fun _ _ _ h => h) (Or.inl ⟨by rfl, ?_⟩) (fun _ => hHeld) ?_
  rotate_left
  · intro w' hS'
    (try dsimp only at hS')
    go_simp
    try with_reducible rfl
  try simp only [Act.put, List.setIfInBounds_toArray, List.set_cons_zero, List.set_cons_succ]
  refine wpAnyT_takeU (i := 17) (oi := ⟨some 68, _, _, _, _, _⟩) (v := ?_) rfl (by kernel_rfl) (by kernel_rfl) (by kernel_rfl) (by kernel_rfl) (fun _ _ _ h => h) (Or.inl ⟨by rfl, ?_⟩) (fun _ => hHeld) ?_
  rotate_left
  · intro w' hS'
    (try dsimp only at hS')
    go_simp
    try with_reducible rfl
  try simp only [Act.put, List.setIfInBounds_toArray, List.set_cons_zero, List.set_cons_succ]
  refine wpAnyT_takeU (i := 18) (oi := ⟨some 69, _, _, _, _, _⟩) (v := ?_) rfl (by kernel_rfl) (by kernel_rfl) (by kernel_rfl) (by kernel_rfl) (fun _ _ _ h => h) (Or.inl ⟨by rfl, ?_⟩) (fun _ => hHeld) ?_
  rotate_left
  · intro w' hS'
    (try dsimp only at hS')
    go_simp
    try with_reducible rfl
  try simp only [Act.put, List.setIfInBounds_toArray, List.set_cons_zero, List.set_cons_succ]
  refine wpAnyT_takeU (i := 20) (oi := ⟨some 70, _, _, _, _, _⟩) (v := ?_) rfl (by kernel_rfl) (by kernel_rfl) (by kernel_rfl) (by kernel_rfl) (fun _ _ _ h => h) (Or.inl ⟨by rfl, ?_⟩) (fun _ => hHeld) ?_
  rotate_left
  · intro w' hS'
    (try dsimp only at hS')
    go_simp
    try with_reducible rfl
  try simp only [Act.put, List.setIfInBounds_toArray, List.set_cons_zero, List.set_cons_succ]
  refine wpAnyT_takeU (i := 21) (oi := ⟨some 71, _, _, _, _, _⟩) (v := ?_) rfl (by kernel_rfl) (by kernel_rfl) (by kernel_rfl) (by kernel_rfl) (fun _ _ _ h => h) (Or.inl ⟨by rfl, ?_⟩) (fun _ => hHeld) ?_
  rotate_left
  · intro w' hS'
    (try dsimp only at hS')
    go_simp
    try with_reducible rfl
  try simp only [Act.put, List.setIfInBounds_toArray, List.set_cons_zero, List.set_cons_succ]
  refine wpAnyT_all (rs := [19]) (by kernel_rfl) (by simp) ?_
  intro ix hix
  obtain rfl : ix = 19 := by simpa using hix
  clear hix
  refine wpOp_step (o := ⟨none, _, _, _, _, _⟩) rfl (fun K hK => ?_)
  have HK := Lib.hid hK
  clear hK
  go_simp
  go_wp2_with fail
  refine HK.out _ _ ⟨tl (by kernel_rfl), ?_⟩
  clear HK
  try clear hHeld
  try simp only [Act.put, List.setIfInBounds_toArray, List.set_cons_zero, List.set_cons_succ]
  refine wpAnyT_takeU (i := 22) (oi := ⟨some 72, _, _, _, _, _⟩) (v := ?_) rfl (by kernel_rfl) (by kernel_rfl) (by kernel_rfl) (by kernel_rfl) (fun _ _ _ h => h) (Or.inl ⟨by rfl, ?_⟩) (tl (by kernel_rfl)) ?_
  rotate_left
  · intro w' hS'
    (try dsimp only at hS')
    go_simp
    try with_reducible rfl
  try simp only [Act.put, List.setIfInBounds_toArray, List.set_cons_zero, List.set_cons_succ]
  refine wpAnyT_all (rs := [23]) (by kernel_rfl) (by simp) ?_
  intro ix hix
  obtain rfl : ix = 23 := by simpa using hix
  clear hix
  refine wpOp_step (o := ⟨none, _, _, _, _, _⟩) rfl (fun K hK => ?_)
  have HK := Lib.hid hK
  clear hK
  go_simp
  go_wp2_with fail
  refine HK.out _ _ ⟨tl (by kernel_rfl), ?_⟩
  clear HK
  try clear hHeld
  try simp only [Act.put, List.setIfInBounds_toArray, List.set_cons_zero, List.set_cons_succ]
  refine wpAnyT_done (by kernel_rfl) ?_ _
  clear hwm
  have hs1 := hst2.setSl (s' := ⟨s.o.take k, s.l, s.p⟩) ((Below.refl _ W).drew) hBW 0 (by decide) (a := some ⟨bo, oo, none⟩) (n := k) (c := k) (by simp [lenOf, Hn.out]) (by rw [show rowOf ⟨s.o.take k, s.l, s.p⟩ 0 = objs (s.o.take k) from rfl, ← objs_take s.o Ok.out.o k (by have := Hn.out; omega)]; exact (Ro2.out.takeN k (by have := Hn.out; omega)).drew) (fun ad he => .inr ⟨_, _, _, Ho0.out, by obtain rfl := Option.some.inj he; rfl⟩) (fun j hj hj2 => ⟨by simp [lenOf, hj2], by simp [rowOf, hj2]⟩) rfl
  have Hs1 := Lib.hid hs1
  have hs2 := Hs1.out.setSl (s' := rmS s) (Below.refl _ _) (by have := Hs1.out; simp; omega) 11 (by decide) (a := some ⟨lb, lo, none⟩) (n := m) (c := m) (lenOf_rm s Ok.out.l m Hm.out).symm (by rw [rowOf_rm s Ok.out.l m Hm.out]; exact (((Rl2.out.takeN m (by omega)).drew).setCell _ (fun ad he => by obtain rfl := Option.some.inj he; exact Hlg.out) _)) (fun ad he => .inr ⟨_, _, _, (Array.getElem?_setIfInBounds_ne (by decide)).trans Ho1.out, by obtain rfl := Option.some.inj he; rfl⟩) (fun j hj hj2 => by rw [show rmS s = ⟨s.o.take k, s.l.set 10 ((lst s 10).take m), s.p⟩ from rm_eq s k m Hn.out Hm.out]; exact set_other ⟨s.o.take k, s.l, s.p⟩ 10 _ j hj2) rfl
  have Hs2 := Lib.hid hs2
  have Hu := Lib.hid (((hu2.trans (Upd.of_below (S := fun k => k = g) ((Below.refl _ W).drew)) (fun _ _ h => h)).setCell ⟨g, 0, none⟩ (fun _ => rfl) (.slice (some ⟨bo, oo, none⟩) k k)).setCell ⟨g, 11, none⟩ (fun _ => rfl) (.slice (some ⟨lb, lo, none⟩) m m))
  clear hs1 hs2 hst2 hu2 kf0 kf11 kc11 hHeld0
  go_wp2_with fail
  go_ret
  exact ⟨ret_err (a := 0) Hr0.out.symm, Hu.out, _, by rw [Hr0.out, if_pos rfl]; exact Hs2.out⟩
end Go.Proofs.Ytpbocficffbcbaa
