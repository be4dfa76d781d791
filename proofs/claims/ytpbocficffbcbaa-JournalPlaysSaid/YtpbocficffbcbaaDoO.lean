import Derived.Test.YtpbocficffbcbaaDoC
namespace Go.Proofs.Ytpbocficffbcbaa
open Go Go.RowKit
set_option linter.unusedVariables false

set_option maxRecDepth 100000 in
set_option maxHeartbeats 800000 in
theorem doObject (w : World) (B g : Nat) (cs : Array Value) (s : St) (h : StAt w B g s cs) (ok : StOk s) (hB : B ≤ w.heap.size) (fits : Fits s 100000) (e : Ev) (a b : Nat) (hb : b < 18) (hek : e.k = 2) (hea : e.a = a) (heb : e.b = b) (hk : chk e = 0) (n : Int) (hn : n = if s.o.length ≤ a then 4 else if (s.o.getD a []).getD b 0 = e.c then 0 else 20) (t : St) (ht : t = ⟨s.o.set a ((s.o.getD a []).set b e.d), s.l, s.p⟩) :
    Calls Try.prog 62 #[.pointer (some ⟨g, 0, none⟩), evV e] w (DoTo w B g s t n) := by
  have Hn := Lib.hid hn
  have Ht := Lib.hid ht
  clear hn ht
  have hg := obj_lt h.obj
  have Hh := Lib.hid h
  have Hok := Lib.hid ok
  have Hk := Lib.hid hk
  have Hek := Lib.hid hek
  have Hea := Lib.hid hea
  have Heb := Lib.hid heb
  have hfo := fits.o
  clear h ok hk hek hea heb fits
  go_enter Try.func62, Try.ntmps62
  go_wp2_with fail
  refine (check _ _).mono ?_
  rintro x w1 ⟨rfl, hb1⟩
  rw [Hk.out, errV_zero]
  have b0 : Below w.heap.size w (w.alloc (.cells (evA e) 64)) := ((Below.refl _ w).alloc (Nat.le_refl _) _)
  have Hh1 := Lib.hid ((Hh.out.all b0).all hb1)
  have Ho1 := Lib.hid (below_obj hb1 (alloc_new w (.cells (evA e) 64)) (by simp))
  have Hb1 := Lib.hid (b0.trans (hb1.mono (by simp)))
  have hw1 : w.heap.size + 1 ≤ w1.heap.size := by have := hb1.size; simp at this; omega
  have HE := Lib.hid (fun (x : World) (hb : Below w1.heap.size w1 x) => (EvCells.of (below_obj hb Ho1.out (obj_lt Ho1.out))).lay Hek.out Hea.out Heb.out)
  obtain ⟨a0, c0, h0, r0, f0⟩ := Hh1.out.own.sz0
  have k0 := (obj_cell Hh1.out.obj 0).trans h0
  have hc0 := r0.le
  have hm0 := r0.max
  unfold maxLen at hm0
  have R0 := Lib.hid r0
  have K0 := Lib.hid k0
  clear hb1 b0 Hh h0 r0 f0
  have hbi : (b : Int) < 18 := by omega
  have hge : g ≠ w.heap.size := by omega
  obtain ⟨m, hm⟩ : ∃ m, m = s.o.length := ⟨_, rfl⟩
  rw [← hm] at k0 R0 K0 hc0 hfo
  have Hm := Lib.hid hm
  clear hm
  obtain ⟨x0, x1, x2, x3, x4, x5⟩ := HE.out w1 (Below.refl _ _)
  by_cases hlen : m ≤ a
  · have Hn4 := Lib.hid (show n = 4 by rw [Hn.out, if_pos (by rw [← Hm.out]; exact hlen)])
    go_wp2_with fail
    go_quiet (fail)
    go_wp2_with fail
    go_ret
    exact ⟨ret_err (a := 4) Hn4.out.symm, (Upd.of_below Hb1.out).trans (Upd.of_below (S := fun k => k = g) (((Q.refl _).drewN _).below _)) (fun _ _ h => h), _, by rw [Hn4.out, if_neg (by decide)]; exact Hh1.out.all (((Q.refl _).drewN _).below _)⟩
  have hlen' : a < m := by omega
  clear hlen
  have hai : (a : Int) < (m : Int) := by omega
  go_wp2_with fail
  go_quiet (fail)
  have hx : Below w1.heap.size w1 (w1.drewN nq) := (((Q.refl _).drewN _).below _)
  go_wp2_with fail
  refine (cloneObjs _ a0 m c0 _ (R0.out.all hx).sl (by omega)).mono ?_
  rintro x w2 ⟨a2, c2, rfl, hr2, hf2, hb2, hn2⟩
  obtain ⟨ob, oo, rfl, hob, hoc⟩ := hr2.sl.nonempty (by omega)
  obtain ⟨z, hz⟩ : ∃ z, z = (s.o.getD a []).getD b 0 := ⟨_, rfl⟩
  have hkc := hoc (a * 18 + b) _ (objs_get s.o Hok.out.o a b (by have := Hm.out; omega) hb)
  rw [← hz, ← Nat.add_assoc] at hkc
  obtain ⟨_, cur, hcur, _, _⟩ := hr2.row _ rfl
  have hkf := obj_free hcur (oo + a * 18 + b)
  have hobw0 : (w1.drewN nq).heap.size ≤ ob := hf2 _ rfl
  have hobw : w1.heap.size ≤ ob := by have := hx.size; omega
  have hx2 := hx.trans (hb2.mono hx.size)
  have Hr2 := Lib.hid hr2
  have Hz := Lib.hid hz
  have Kc : Hid (w2.drew.cell? ⟨ob, oo + a * 18 + b, none⟩ = some (.int .i64 z)) := Lib.hid hkc
  have Kf : Hid (w2.drew.frozen? ⟨ob, oo + a * 18 + b, none⟩ = false) := Lib.hid hkf
  have hc2 := hr2.le
  clear hr2 hf2 hb2 hn2 hoc hkc hkf hcur hz x0 x1 x2 x3 x4 x5 k0
  obtain ⟨x0, x1, x2, x3, x4, x5⟩ := HE.out w2 hx2
  go_wp2_with fail
  clear x0 x1 x2 x3 x4 x5
  have hrow : (a * 18 + b) < m * 18 := by have : (a + 1) * 18 ≤ m * 18 := Nat.mul_le_mul_right _ hlen'; omega
  have hx3 : Below w1.heap.size w1 w2.drew := hx2.drew
  have Hh2 := Lib.hid (Hh1.out.all hx3)
  by_cases hze : z = e.c
  · have Hn0 := Lib.hid (show n = 0 by rw [Hn.out, if_neg (by have := Hm.out; omega), if_pos (by rw [← Hz.out]; exact hze)])
    have Hze := Lib.hid hze
    clear hze
    refine wp_region_held_drew (S := fun x => x.cell? ⟨w.heap.size, 0, none⟩ = some (.int .i64 2) ∧ x.cell? ⟨w.heap.size, 1, none⟩ = some (.int .i64 a) ∧ x.cell? ⟨w.heap.size, 2, none⟩ = some (.int .i64 b) ∧ x.cell? ⟨w.heap.size, 3, none⟩ = some (.int .i64 e.c) ∧ x.cell? ⟨w.heap.size, 4, none⟩ = some (.int .i64 e.d) ∧ x.cell? ⟨w.heap.size, 5, none⟩ = some (.int .i64 e.e)) (by kernel_rfl) (HE.out _ hx3) (fun hHeld => ?_)
    refine wpAnyH_take (i := 0) (oi := ⟨some 49, _, _, _, _, _⟩) (v := ?_) rfl (by kernel_rfl) (by kernel_rfl) (by kernel_rfl) (fun _ _ _ h => h) (Or.inl ⟨by rfl, ?_⟩) hHeld ?_
    rotate_left
    · intro w' hS'
      (try dsimp only at hS')
      go_simp
      try with_reducible rfl
    try simp only [Act.put, List.setIfInBounds_toArray, List.set_cons_zero, List.set_cons_succ]
    refine wpAnyH_take (i := 1) (oi := ⟨some 50, _, _, _, _, _⟩) (v := ?_) rfl (by kernel_rfl) (by kernel_rfl) (by kernel_rfl) (fun _ _ _ h => h) (Or.inl ⟨by rfl, ?_⟩) hHeld ?_
    rotate_left
    · intro w' hS'
      (try dsimp only at hS')
      go_simp
      try with_reducible rfl
    try simp only [Act.put, List.setIfInBounds_toArray, List.set_cons_zero, List.set_cons_succ]
    refine wpAnyH_take (i := 2) (oi := ⟨some 51, _, _, _, _, _⟩) (v := ?_) rfl (by kernel_rfl) (by kernel_rfl) (by kernel_rfl) (fun _ _ _ h => h) (Or.inl ⟨by rfl, ?_⟩) hHeld ?_
    rotate_left
    · intro w' hS'
      (try dsimp only at hS')
      go_simp
      try with_reducible rfl
    try simp only [Act.put, List.setIfInBounds_toArray, List.set_cons_zero, List.set_cons_succ]
    refine wpAnyH_take (i := 3) (oi := ⟨some 52, _, _, _, _, _⟩) (v := ?_) rfl (by kernel_rfl) (by kernel_rfl) (by kernel_rfl) (fun _ _ _ h => h) (Or.inl ⟨by rfl, ?_⟩) hHeld ?_
    rotate_left
    · intro w' hS'
      (try dsimp only at hS')
      go_simp
      try with_reducible rfl
    try simp only [Act.put, List.setIfInBounds_toArray, List.set_cons_zero, List.set_cons_succ]
    refine wpAnyH_take (i := 4) (oi := ⟨some 53, _, _, _, _, _⟩) (v := ?_) rfl (by kernel_rfl) (by kernel_rfl) (by kernel_rfl) (fun _ _ _ h => h) (Or.inl ⟨by rfl, ?_⟩) hHeld ?_
    rotate_left
    · intro w' hS'
      (try dsimp only at hS')
      go_simp
      try with_reducible rfl
    try simp only [Act.put, List.setIfInBounds_toArray, List.set_cons_zero, List.set_cons_succ]
    refine wpAnyH_take (i := 5) (oi := ⟨some 54, _, _, _, _, _⟩) (v := ?_) rfl (by kernel_rfl) (by kernel_rfl) (by kernel_rfl) (fun _ _ _ h => h) (Or.inl ⟨by rfl, ?_⟩) hHeld ?_
    rotate_left
    · intro w' hS'
      (try dsimp only at hS')
      go_simp
      try with_reducible rfl
    try simp only [Act.put, List.setIfInBounds_toArray, List.set_cons_zero, List.set_cons_succ]
    refine wpAnyH_take (i := 6) (oi := ⟨some 55, _, _, _, _, _⟩) (v := ?_) rfl (by kernel_rfl) (by kernel_rfl) (by kernel_rfl) (fun _ _ _ h => h) (Or.inl ⟨by rfl, ?_⟩) hHeld ?_
    rotate_left
    · intro w' hS'
      (try dsimp only at hS')
      go_simp
      try with_reducible rfl
    try simp only [Act.put, List.setIfInBounds_toArray, List.set_cons_zero, List.set_cons_succ]
    refine wpAnyH_take (i := 7) (oi := ⟨some 56, _, _, _, _, _⟩) (v := ?_) rfl (by kernel_rfl) (by kernel_rfl) (by kernel_rfl) (fun _ _ _ h => h) (Or.inl ⟨by rfl, ?_⟩) hHeld ?_
    rotate_left
    · intro w' hS'
      (try dsimp only at hS')
      go_simp
      try with_reducible rfl
    try simp only [Act.put, List.setIfInBounds_toArray, List.set_cons_zero, List.set_cons_succ]
    refine wpAnyH_all (rs := [8]) (by kernel_rfl) (by simp) ?_
    intro ix hix
    obtain rfl : ix = 8 := by simpa using hix
    clear hix
    refine wpOp_step (o := ⟨some 57, _, _, _, _, _⟩) rfl (fun K hK => ?_)
    have HK := Lib.hid hK
    clear hK
    go_simp
    refine (setOk _ ob (oo + a * 18 + b) z ⟨2, a, b, e.c, e.d, e.e⟩ Kc.out Kf.out Hze.out).mono ?_
    rintro x w3 ⟨rfl, w4, hb4, rfl⟩
    rw [errV_zero]
    have hb4' : Below w2.heap.size w2 w4 := undrew hb4
    have hx4 : Below w1.heap.size w1 (w4.setCell ⟨ob, oo + a * 18 + b, none⟩ (.int .i64 e.d)) := (hx2.trans (hb4'.mono hx2.size)).setCell hobw _
    have Hb4 := Lib.hid hb4'
    clear hb4 hb4'
    go_wp2_with fail
    refine HK.out _ _ ⟨(HE.out _ hx4), ?_⟩
    clear HK
    try clear hHeld
    have hHeld := (HE.out _ hx4)
    try simp only [Act.put, List.setIfInBounds_toArray, List.set_cons_zero, List.set_cons_succ]
    refine wpAnyH_take (i := 9) (oi := ⟨some 7, _, _, _, _, _⟩) (v := ?_) rfl (by kernel_rfl) (by kernel_rfl) (by kernel_rfl) (fun _ _ _ h => h) (Or.inl ⟨by rfl, ?_⟩) hHeld ?_
    rotate_left
    · intro w' hS'
      (try dsimp only at hS')
      go_simp
      try with_reducible rfl
    try simp only [Act.put, List.setIfInBounds_toArray, List.set_cons_zero, List.set_cons_succ]
    refine wpAnyH_done (by kernel_rfl) ?_ _
    obtain ⟨x0, x1, x2, x3, x4, x5⟩ := HE.out _ hx4
    have kf := obj_free (below_obj hx4 Hh1.out.obj (obj_lt Hh1.out.obj)) 0
    have kc := (hx4.cell (p := ⟨g, 0, none⟩) (obj_lt Hh1.out.obj)).trans K0.out
    have hr5 := ((Hr2.out.all Hb4.out).setAt (a * 18 + b) hrow (.int .i64 e.d) rfl)
    rw [objs_set s.o Hok.out.o a b e.d (by have := Hm.out; omega) hb, ← Nat.add_assoc] at hr5
    have hs5 := Hh1.out.setSl (s' := t) hx4 (by omega) 0 (by decide) (a := some ⟨ob, oo, none⟩) (n := m) (c := c2) (by rw [Ht.out, Hm.out]; simp [lenOf]) (by rw [Ht.out]; exact hr5) (fun ad he => .inl (by obtain rfl := Option.some.inj he; exact hobw)) (fun j hj hj2 => by rw [Ht.out]; exact ⟨by simp [lenOf, hj2], by simp [rowOf, hj2]⟩) (by rw [Ht.out])
    have Hs5 := Lib.hid hs5
    have Hu5 := Lib.hid (((Upd.of_below Hb1.out).trans (Upd.of_below (S := fun k => k = g) hx4) (fun _ _ h => h)).setCell ⟨g, 0, none⟩ (fun _ => rfl) (.slice (some ⟨ob, oo, none⟩) m c2))
    clear hr5 hs5 hHeld
    generalize w4.setCell ⟨ob, oo + a * 18 + b, none⟩ (.int .i64 e.d) = w5 at *
    go_wp2_with fail
    go_ret
    exact ⟨ret_err (a := 0) Hn0.out.symm, Hu5.out, _, by rw [Hn0.out, if_pos rfl]; exact Hs5.out⟩
  · have Hn0 := Lib.hid (show n = 20 by rw [Hn.out, if_neg (by have := Hm.out; omega), if_neg (by rw [← Hz.out]; exact hze)])
    have Hze := Lib.hid hze
    clear hze
    refine wp_region_held_drew (S := fun x => x.cell? ⟨w.heap.size, 0, none⟩ = some (.int .i64 2) ∧ x.cell? ⟨w.heap.size, 1, none⟩ = some (.int .i64 a) ∧ x.cell? ⟨w.heap.size, 2, none⟩ = some (.int .i64 b) ∧ x.cell? ⟨w.heap.size, 3, none⟩ = some (.int .i64 e.c) ∧ x.cell? ⟨w.heap.size, 4, none⟩ = some (.int .i64 e.d) ∧ x.cell? ⟨w.heap.size, 5, none⟩ = some (.int .i64 e.e)) (by kernel_rfl) (HE.out _ hx3) (fun hHeld => ?_)
    refine wpAnyH_take (i := 0) (oi := ⟨some 49, _, _, _, _, _⟩) (v := ?_) rfl (by kernel_rfl) (by kernel_rfl) (by kernel_rfl) (fun _ _ _ h => h) (Or.inl ⟨by rfl, ?_⟩) hHeld ?_
    rotate_left
    · intro w' hS'
      (try dsimp only at hS')
      go_simp
      try with_reducible rfl
    try simp only [Act.put, List.setIfInBounds_toArray, List.set_cons_zero, List.set_cons_succ]
    refine wpAnyH_take (i := 1) (oi := ⟨some 50, _, _, _, _, _⟩) (v := ?_) rfl (by kernel_rfl) (by kernel_rfl) (by kernel_rfl) (fun _ _ _ h => h) (Or.inl ⟨by rfl, ?_⟩) hHeld ?_
    rotate_left
    · intro w' hS'
      (try dsimp only at hS')
      go_simp
      try with_reducible rfl
    try simp only [Act.put, List.setIfInBounds_toArray, List.set_cons_zero, List.set_cons_succ]
    refine wpAnyH_take (i := 2) (oi := ⟨some 51, _, _, _, _, _⟩) (v := ?_) rfl (by kernel_rfl) (by kernel_rfl) (by kernel_rfl) (fun _ _ _ h => h) (Or.inl ⟨by rfl, ?_⟩) hHeld ?_
    rotate_left
    · intro w' hS'
      (try dsimp only at hS')
      go_simp
      try with_reducible rfl
    try simp only [Act.put, List.setIfInBounds_toArray, List.set_cons_zero, List.set_cons_succ]
    refine wpAnyH_take (i := 3) (oi := ⟨some 52, _, _, _, _, _⟩) (v := ?_) rfl (by kernel_rfl) (by kernel_rfl) (by kernel_rfl) (fun _ _ _ h => h) (Or.inl ⟨by rfl, ?_⟩) hHeld ?_
    rotate_left
    · intro w' hS'
      (try dsimp only at hS')
      go_simp
      try with_reducible rfl
    try simp only [Act.put, List.setIfInBounds_toArray, List.set_cons_zero, List.set_cons_succ]
    refine wpAnyH_take (i := 4) (oi := ⟨some 53, _, _, _, _, _⟩) (v := ?_) rfl (by kernel_rfl) (by kernel_rfl) (by kernel_rfl) (fun _ _ _ h => h) (Or.inl ⟨by rfl, ?_⟩) hHeld ?_
    rotate_left
    · intro w' hS'
      (try dsimp only at hS')
      go_simp
      try with_reducible rfl
    try simp only [Act.put, List.setIfInBounds_toArray, List.set_cons_zero, List.set_cons_succ]
    refine wpAnyH_take (i := 5) (oi := ⟨some 54, _, _, _, _, _⟩) (v := ?_) rfl (by kernel_rfl) (by kernel_rfl) (by kernel_rfl) (fun _ _ _ h => h) (Or.inl ⟨by rfl, ?_⟩) hHeld ?_
    rotate_left
    · intro w' hS'
      (try dsimp only at hS')
      go_simp
      try with_reducible rfl
    try simp only [Act.put, List.setIfInBounds_toArray, List.set_cons_zero, List.set_cons_succ]
    refine wpAnyH_take (i := 6) (oi := ⟨some 55, _, _, _, _, _⟩) (v := ?_) rfl (by kernel_rfl) (by kernel_rfl) (by kernel_rfl) (fun _ _ _ h => h) (Or.inl ⟨by rfl, ?_⟩) hHeld ?_
    rotate_left
    · intro w' hS'
      (try dsimp only at hS')
      go_simp
      try with_reducible rfl
    try simp only [Act.put, List.setIfInBounds_toArray, List.set_cons_zero, List.set_cons_succ]
    refine wpAnyH_take (i := 7) (oi := ⟨some 56, _, _, _, _, _⟩) (v := ?_) rfl (by kernel_rfl) (by kernel_rfl) (by kernel_rfl) (fun _ _ _ h => h) (Or.inl ⟨by rfl, ?_⟩) hHeld ?_
    rotate_left
    · intro w' hS'
      (try dsimp only at hS')
      go_simp
      try with_reducible rfl
    try simp only [Act.put, List.setIfInBounds_toArray, List.set_cons_zero, List.set_cons_succ]
    refine wpAnyH_all (rs := [8]) (by kernel_rfl) (by simp) ?_
    intro ix hix
    obtain rfl : ix = 8 := by simpa using hix
    clear hix
    refine wpOp_step (o := ⟨some 57, _, _, _, _, _⟩) rfl (fun K hK => ?_)
    have HK := Lib.hid hK
    clear hK
    go_simp
    refine (setBad _ ob (oo + a * 18 + b) z ⟨2, a, b, e.c, e.d, e.e⟩ Kc.out Kf.out Hze.out).mono ?_
    rintro x w4 ⟨rfl, hb4⟩
    have hb4' : Below w2.heap.size w2 w4 := undrew hb4
    have hx4 : Below w1.heap.size w1 w4 := hx2.trans (hb4'.mono hx2.size)
    clear hb4 hb4'
    go_wp2_with fail
    refine HK.out _ _ ⟨(HE.out _ hx4), ?_⟩
    clear HK
    try clear hHeld
    have hHeld := (HE.out _ hx4)
    try simp only [Act.put, List.setIfInBounds_toArray, List.set_cons_zero, List.set_cons_succ]
    refine wpAnyH_take (i := 9) (oi := ⟨some 7, _, _, _, _, _⟩) (v := ?_) rfl (by kernel_rfl) (by kernel_rfl) (by kernel_rfl) (fun _ _ _ h => h) (Or.inl ⟨by rfl, ?_⟩) hHeld ?_
    rotate_left
    · intro w' hS'
      (try dsimp only at hS')
      go_simp
      try with_reducible rfl
    try simp only [Act.put, List.setIfInBounds_toArray, List.set_cons_zero, List.set_cons_succ]
    refine wpAnyH_done (by kernel_rfl) ?_ _
    go_wp2_with fail
    go_ret
    exact ⟨ret_err (a := 20) Hn0.out.symm, (Upd.of_below Hb1.out).trans (Upd.of_below (S := fun k => k = g) hx4) (fun _ _ h => h), _, by rw [Hn0.out, if_neg (by decide)]; exact Hh1.out.all hx4⟩
end Go.Proofs.Ytpbocficffbcbaa
